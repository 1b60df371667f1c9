/- Package body: what any object says. Package body: are two items alike? Package body: any item as an object. Package body, plain: what is packed is what is told, and the other way. Package body: the program's side, rows written no more. -/
import Derived.Test.YtdkhlhfdjggbpaaBodyYb
namespace Go.Proofs.Ytdkhlhfdjggbpaa.Cm
open Go.RowKit
set_option linter.unusedVariables false
set_option linter.unusedSimpArgs false
set_option maxRecDepth 20000
set_option maxHeartbeats 8000000
def stepsOf (c : Int) : List Stp :=
  if c = 1 then [.node 1, .fix 2 0, .int 2 2 65535, .node 3] else if c = 3 then [.node 1, .fix 4 0] else if c = 5 then [.raw 4 4] else if c = 6 then [.node 1, .fix 1 0, .int 1 2 255, .int 2 3 65535] else if c = 8 then [.fix 4 18]
  else if c = 9 then [.raw 8 4] else if c = 12 then [.raw 8 4] else if c = 10 then [.node 1, .fix 2 0, .int 2 2 65535] else if c = 11 then [.node 1, .fix 2 0, .int 2 2 65535] else if c = 16 then [.int 4 1 1048575] else if c = 19 then [.fix 2 0, .int 2 1 65535]
  else if c = 23 then [.fix 4 0, .raw 4 4] else if c = 207 then [.raw 4 11, .raw 4 9, .raw 4 10, .int 1 7 7, .int 1 8 7, .fix 2 0] else []
def kindI (c : Int) : Int := if c = 1 ∨ c = 10 ∨ c = 11 then 7 else if c = 9 ∨ c = 12 then 2 else 1
/-- Classes whose items have numbers. -/
def known (c : Int) : Prop := c = 1 ∨ c = 3 ∨ c = 5 ∨ c = 6 ∨ c = 8 ∨ c = 9 ∨ c = 12 ∨ c = 10 ∨ c = 11 ∨ c = 16 ∨ c = 19 ∨ c = 23 ∨ c = 207
instance (c : Int) : Decidable (known c) := by unfold known; infer_instance
def preB (x : Fs) : Bool := if known x.cls then (if x.cls = 5 ∨ x.cls = 23 then decide (x.u ≤ 4294967295) else if x.cls = 207 then x.bw == 0 else true) else false
def thrI {F : Form} (z : GS F) (x : Fs) : GS F × Fs := (z.needs (preB x)).run x (stepsOf x.cls)
theorem needs_true {F : Form} (z : GS F) : z.needs true = z := by obtain ⟨ok, s⟩ := z; simp [GS.needs]
def isL (c : Int) : Prop := c = 20 ∨ c = 21
instance (c : Int) : Decidable (isL c) := by unfold isL; infer_instance
section
variable {F : Form} {σ σ1 : Heap} {g p q : Nat} {fp : List Nat} {d : DV} {z : GS F} {x : Fs}
theorem Thr.weak {σ' : Heap} {k m : Nat} {w : GS F × Fs} (hk : k ≤ m) (h : Thr F σ σ' g p q fp d m w) : Thr F σ σ' g p q fp d k w := ⟨h.1, fits_le hk h.2.1, h.2.2⟩
theorem through_ok (h : Thr F σ σ1 g p q fp d 64 (z, x)) (hw : x.Wf) (hl : ¬ isL x.cls) :
    ACalls Try.prog 56 [.ptr g 0 0 1, .ptr q 0 0 1] σ1 (fun y σ' => y = .sc (.int .i64 (kindI x.cls)) ∧ Thr F σ σ' g p q fp d 0 (thrI z x)) := by
  by_cases hk : known x.cls
  · rcases hk with hc | hc | hc | hc | hc | hc | hc | hc | hc | hc | hc | hc | hc
    · have e : thrI z x = GS.run z x (stepsOf 1) := by simp only [thrI, preB, known, hc]; exact congrArg (fun z => GS.run z x (stepsOf 1)) (needs_true z)
      rw [e, hc]; exact (through_1 h hw hc).mono fun y σ' ⟨h1, h2⟩ => ⟨h1, h2.weak (by omega)⟩
    · have e : thrI z x = GS.run z x (stepsOf 3) := by simp only [thrI, preB, known, hc]; exact congrArg (fun z => GS.run z x (stepsOf 3)) (needs_true z)
      rw [e, hc]; exact (through_3 h hw hc).mono fun y σ' ⟨h1, h2⟩ => ⟨h1, h2.weak (by omega)⟩
    · have e : thrI z x = GS.run (z.needs (decide (x.u ≤ 4294967295))) x (stepsOf 5) := by simp only [thrI, preB, known, hc]; rfl
      rw [e, hc]; exact (through_5 h hw hc).mono fun y σ' ⟨h1, h2⟩ => ⟨h1, h2.weak (by omega)⟩
    · have e : thrI z x = GS.run z x (stepsOf 6) := by simp only [thrI, preB, known, hc]; exact congrArg (fun z => GS.run z x (stepsOf 6)) (needs_true z)
      rw [e, hc]; exact (through_6 h hw hc).mono fun y σ' ⟨h1, h2⟩ => ⟨h1, h2.weak (by omega)⟩
    · have e : thrI z x = GS.run z x (stepsOf 8) := by simp only [thrI, preB, known, hc]; exact congrArg (fun z => GS.run z x (stepsOf 8)) (needs_true z)
      rw [e, hc]; exact (through_8 h hw hc).mono fun y σ' ⟨h1, h2⟩ => ⟨h1, h2.weak (by omega)⟩
    · have e : thrI z x = GS.run z x (stepsOf 9) := by simp only [thrI, preB, known, hc]; exact congrArg (fun z => GS.run z x (stepsOf 9)) (needs_true z)
      rw [e, hc]; exact (through_9 h hw hc).mono fun y σ' ⟨h1, h2⟩ => ⟨h1, h2.weak (by omega)⟩
    · have e : thrI z x = GS.run z x (stepsOf 12) := by simp only [thrI, preB, known, hc]; exact congrArg (fun z => GS.run z x (stepsOf 12)) (needs_true z)
      rw [e, hc]; exact (through_12 h hw hc).mono fun y σ' ⟨h1, h2⟩ => ⟨h1, h2.weak (by omega)⟩
    · have e : thrI z x = GS.run z x (stepsOf 10) := by simp only [thrI, preB, known, hc]; exact congrArg (fun z => GS.run z x (stepsOf 10)) (needs_true z)
      rw [e, hc]; exact (through_10 h hw hc).mono fun y σ' ⟨h1, h2⟩ => ⟨h1, h2.weak (by omega)⟩
    · have e : thrI z x = GS.run z x (stepsOf 11) := by simp only [thrI, preB, known, hc]; exact congrArg (fun z => GS.run z x (stepsOf 11)) (needs_true z)
      rw [e, hc]; exact (through_11 h hw hc).mono fun y σ' ⟨h1, h2⟩ => ⟨h1, h2.weak (by omega)⟩
    · have e : thrI z x = GS.run z x (stepsOf 16) := by simp only [thrI, preB, known, hc]; exact congrArg (fun z => GS.run z x (stepsOf 16)) (needs_true z)
      rw [e, hc]; exact (through_16 h hw hc).mono fun y σ' ⟨h1, h2⟩ => ⟨h1, h2.weak (by omega)⟩
    · have e : thrI z x = GS.run z x (stepsOf 19) := by simp only [thrI, preB, known, hc]; exact congrArg (fun z => GS.run z x (stepsOf 19)) (needs_true z)
      rw [e, hc]; exact (through_19 h hw hc).mono fun y σ' ⟨h1, h2⟩ => ⟨h1, h2.weak (by omega)⟩
    · have e : thrI z x = GS.run (z.needs (decide (x.u ≤ 4294967295))) x (stepsOf 23) := by simp only [thrI, preB, known, hc]; rfl
      rw [e, hc]; exact (through_23 h hw hc).mono fun y σ' ⟨h1, h2⟩ => ⟨h1, h2.weak (by omega)⟩
    · have e : thrI z x = GS.run (z.needs (x.bw == 0)) x (stepsOf 207) := by simp only [thrI, preB, known, hc]; rfl
      rw [e, hc]; exact (through_207 h hw hc).mono fun y σ' ⟨h1, h2⟩ => ⟨h1, h2.weak (by omega)⟩
  · have hk' := hk
    simp only [known, not_or] at hk'
    simp only [isL, not_or] at hl
    obtain ⟨h1, h3, h5, h6, h8, h9, h12, h10, h11, h16, h19, h23, h207⟩ := hk'
    have e : thrI z x = (z.needs false, x) := by
      simp only [thrI, preB, hk, if_false, stepsOf, h1, h3, h5, h6, h8, h9, h12, h10, h11, h16, h19, h23, h207, GS.run]
    have ek : kindI x.cls = 1 := by simp [kindI, h1, h10, h11, h9, h12]
    rw [e, ek]
    exact (through_no h hw ⟨h1, h3, h5, h6, h8, h9, h12, h10, h11, h16, h19, hl.1, hl.2, h23, h207⟩).mono fun y σ' ⟨h1, h2⟩ => ⟨h1, h2.weak (by omega)⟩
end
def zF (c : Int) : Fs := ⟨c, 0, 0, 0, 0, 0, 0, 0, 0, 0, 0⟩
/-- What a taker tells of an item of some class. -/
def takI (c : Int) (b : List Int) : GS takF × Fs × List Int :=
  if isL c then ((takL (tkM ⟨true, (b, 0)⟩) ⟨true, (b, 0)⟩ []).1.needs (decide ((takL (tkM ⟨true, (b, 0)⟩) ⟨true, (b, 0)⟩ []).2.length ≤ 16)), zF c, (takL (tkM ⟨true, (b, 0)⟩) ⟨true, (b, 0)⟩ []).2)
  else ((thrI (F := takF) ⟨true, (b, 0)⟩ (zF c)).1, (thrI (F := takF) ⟨true, (b, 0)⟩ (zF c)).2, [])
def unpA (c k : Int) (b : List Int) : Fs × List Int × Int :=
  if (takI c b).1.ok = true ∧ kindI c = k ∧ (takI c b).1.s.2 = 0 ∧ (takI c b).1.s.1.length = 0 then ((takI c b).2.1, (takI c b).2.2, 0) else (zF 0, [], 5)
theorem zF_wf (c : Int) (hc : -9223372036854775808 ≤ c ∧ c ≤ 9223372036854775807) : (zF c).Wf := by
  refine ⟨hc, ?_, ?_, ?_, ?_, ?_, ?_, ?_, ?_, ?_, ?_⟩ <;> simp [zF]
/-- An item's fields, taken. -/
theorem through_tak (σ : Heap) {g p q : Nat} {fp : List Nat} {b : List Int} {c : Int} (hA : GonAt takF σ g p fp ⟨true, (b, 0)⟩) (gtq : σ.get q = some (ItO (zF c) (.sc (.slice none 0 0)))) (hl : b.length ≤ 1000000) (hc : -9223372036854775808 ≤ c ∧ c ≤ 9223372036854775807) :
    ACalls Try.prog 56 [.ptr g 0 0 1, .ptr q 0 0 1] σ (fun y σ' => y = .sc (.int .i64 (kindI c)) ∧ ∃ d', ListAt σ' q (takI c b).2.1 d' (takI c b).2.2 ∧ (∀ r ∈ tOf d', σ.n ≤ r) ∧ GonTo takF σ σ' g p fp [q] (takI c b).1) := by
  by_cases h : isL c
  · have hl := list_tak σ hA gtq hl
    have key : ∀ (y : DV) (σ' : Heap), (y = .tup [] ∧ ∃ d', ListAt σ' q (zF c) d' (takL (tkM ⟨true, (b, 0)⟩) ⟨true, (b, 0)⟩ []).2 ∧ (∀ r ∈ tOf d', σ.n ≤ r) ∧ GonTo takF σ σ' g p fp [q] ((takL (tkM ⟨true, (b, 0)⟩) ⟨true, (b, 0)⟩ []).1.needs (decide ((takL (tkM ⟨true, (b, 0)⟩) ⟨true, (b, 0)⟩ []).2.length ≤ 16)))) →
        (y = .tup [] ∧ ((DV.sc (.int .i64 1) : DV) = .sc (.int .i64 (kindI c)) ∧ ∃ d', ListAt σ' q (takI c b).2.1 d' (takI c b).2.2 ∧ (∀ r ∈ tOf d', σ.n ≤ r) ∧ GonTo takF σ σ' g p fp [q] (takI c b).1)) := fun y σ' hh => by
      have e : kindI c = 1 := by rcases h with h | h <;> simp [kindI, h]
      rw [e]
      simp only [takI, h, if_true]
      exact ⟨hh.1, trivial, hh.2⟩
    rcases h with h | h
    · exact through_20 gtq h (hl.mono key)
    · exact through_21 gtq h (hl.mono key)
  · refine (through_ok (F := takF) (Thr.start hA gtq trivial) (zF_wf c hc) h).mono ?_
    rintro y σ' ⟨h1, h2, h3, h4⟩
    refine ⟨h1, .sc (.slice none 0 0), ⟨?_, ?_⟩, ?_, ?_⟩
    · simp only [takI, h, if_false]; exact h2
    · simp only [takI, h, if_false]; exact Hold.nil _ _
    · simp [tOf]
    · simp only [takI, h, if_false]; exact h4
theorem unpack_ok (σ : Heap) {c k : Int} {d : DV} {b : List Int} (dncl : cellsD d = [d]) (dnlf : Cm.leaf d = true) (hs : Src σ d (bytesD b)) (ho : Octs b) (hb : b.length ≤ 1000000) (hc : -9223372036854775808 ≤ c ∧ c ≤ 9223372036854775807) :
    ACalls Try.prog 27 [.agg [.sc (.int .i64 c), .sc (.int .i64 k), d]] σ (fun y σ' => Ext [] σ σ' ∧ ∃ dl, y = .tup [.agg (itC (unpA c k b).1 dl), .sc (.int .i64 (unpA c k b).2.2)] ∧ Hold σ' dl 3 ((unpA c k b).2.1.map eI) ∧ (∀ r ∈ tOf dl, σ.n ≤ r)) := by
  refine ACalls.code hT Try.func27 rfl ?_
  simp only [Try.ntmps27, List.length_cons, List.length_nil, Nat.reduceSub, Nat.reduceAdd, List.replicate, List.cons_append, List.nil_append]
  repeat (first | (with_reducible first | refine AW.seq ?_ | refine AW.block ?_ | refine AW.skip ?_ | refine AW.ret ?_ | refine AW.exit ?_ | refine AW.reg hT ?_) | ((with_reducible refine AW.cond_true ?_ ?_); · rfl) | ((with_reducible refine AW.cond_false ?_ ?_); · rfl) | simp (maxSteps := 3000000) (maxDischargeDepth := 12) only [seval,push_cast,appendX,Try.results27,↓dncl,↓dnlf])
  refine AOpsL.call (first := []) (cap := []) hT rfl rfl rfl fn35 rfl (ACalls.mono (rdnew_ok _ d b (hs.ext (by repeat (first | exact Ext.refl _ _ | assumption | refine Ext.push ?_ _ | ((refine Ext.set ?_ ?_ _); rotate_left; · (simp (maxSteps := 3000000) (maxDischargeDepth := 12) only [push_cast, appendX, Nat.reduceAdd, Nat.reduceEqDiff, Nat.reduceLT, Nat.reduceLeDiff, reduceIte, reduceCtorEq, ↓dncl, ↓dnlf])) | ((refine Ext.then1 (by assumption) ?_ ?_); rotate_left; · (intro p hp _; first | assumption | exact List.mem_cons_of_mem _ hp | (cases hp; done) | (simp at hp; subst hp; simp)))))) hb) ?_)
  rintro y σ1 ⟨r, rfl, hr, gtr, xt1⟩
  repeat (first | (with_reducible first | refine AW.seq ?_ | refine AW.block ?_ | refine AW.skip ?_ | refine AW.ret ?_ | refine AW.exit ?_ | refine AW.reg hT ?_) | ((with_reducible refine AW.cond_true ?_ ?_); · rfl) | ((with_reducible refine AW.cond_false ?_ ?_); · rfl) | simp (maxSteps := 3000000) (maxDischargeDepth := 12) only [seval,push_cast,appendX,Try.results27,↓dncl,↓dnlf,gtr,Heap.lt gtr,xt1.2,xt1.ltT,xt1.leT])
  refine AOpsL.rule hT rfl (AOp.makeIface (e := 110) rfl rfl (by kernel_rfl) ?_)
  repeat ((fail_if_success (with_reducible refine AW.at1 (id := 4) ?_)); (fail_if_success (with_reducible refine AW.at2 (id := 4) ?_)); first | (with_reducible first | refine AW.seq ?_ | refine AW.block ?_ | refine AW.skip ?_ | refine AW.ret ?_ | refine AW.exit ?_ | refine AW.reg hT ?_) | ((with_reducible refine AW.cond_true ?_ ?_); · rfl) | ((with_reducible refine AW.cond_false ?_ ?_); · rfl) | simp (maxSteps := 3000000) (maxDischargeDepth := 12) only [seval,push_cast,appendX,Try.results27,↓dncl,↓dnlf,gtr,Heap.lt gtr,xt1.2,xt1.ltT,xt1.leT])
  refine AW.name (fun σ2 hσ2 => ?_)
  have hrl := Heap.lt gtr
  have hn1 := xt1.1
  simp only [Heap.n_push] at hr hn1
  have hA2 : GonAt takF σ2 (σ1.n + 1) σ1.n [σ1.n, r] ⟨true, (b, 0)⟩ := by
    subst hσ2
    exact ⟨by simp (maxSteps := 3000000) (maxDischargeDepth := 12) only [push_cast, appendX, Nat.reduceAdd, Nat.reduceEqDiff, Nat.reduceLT, Nat.reduceLeDiff, reduceIte, reduceCtorEq, GonO, takF, ↓dncl, ↓dnlf, gtr, Heap.lt gtr, xt1.2, xt1.ltT, xt1.leT], by simp; omega, r, rfl, by omega, ho, by simp (maxSteps := 3000000) (maxDischargeDepth := 12) only [push_cast, appendX, Nat.reduceAdd, Nat.reduceEqDiff, Nat.reduceLT, Nat.reduceLeDiff, reduceIte, reduceCtorEq, TakO, ↓dncl, ↓dnlf, gtr, Heap.lt gtr, xt1.2, xt1.ltT, xt1.leT], by simp (maxSteps := 3000000) (maxDischargeDepth := 12) only [push_cast, appendX, Nat.reduceAdd, Nat.reduceEqDiff, Nat.reduceLT, Nat.reduceLeDiff, reduceIte, reduceCtorEq, ↓dncl, ↓dnlf, gtr, Heap.lt gtr, xt1.2, xt1.ltT, xt1.leT]⟩
  have gtq2 : σ2.get (σ1.n + 1 + 1) = some (ItO (zF c) (.sc (.slice none 0 0))) := by subst hσ2; simp (maxSteps := 3000000) (maxDischargeDepth := 12) only [push_cast, appendX, Nat.reduceAdd, Nat.reduceEqDiff, Nat.reduceLT, Nat.reduceLeDiff, reduceIte, reduceCtorEq, ItO, itC, zF, ↓dncl, ↓dnlf, gtr, Heap.lt gtr, xt1.2, xt1.ltT, xt1.leT]
  have gto2 : σ2.get σ.n = some ⟨[[.sc (.int .i64 c), .sc (.int .i64 k), d]], 81, true⟩ := by subst hσ2; simp (maxSteps := 3000000) (maxDischargeDepth := 12) only [push_cast, appendX, Nat.reduceAdd, Nat.reduceEqDiff, Nat.reduceLT, Nat.reduceLeDiff, reduceIte, reduceCtorEq, ↓dncl, ↓dnlf, gtr, Heap.lt gtr, xt1.2, xt1.ltT, xt1.leT, gtq2, Heap.lt gtq2]
  have gtx2 : σ2.get (σ.n + 1) = some ⟨[[.sc (.int .i64 0), .sc (.int .i64 0), .sc (.int .i64 0), .sc (.int .i64 0), .sc (.int .u64 0), .sc (.slice none 0 0), .sc (.int .u64 0), .sc (.int .i64 0), .sc (.int .i64 0), .sc (.int .u32 0), .sc (.int .u32 0), .sc (.int .u32 0)]], 77, true⟩ := by subst hσ2; simp (maxSteps := 3000000) (maxDischargeDepth := 12) only [push_cast, appendX, Nat.reduceAdd, Nat.reduceEqDiff, Nat.reduceLT, Nat.reduceLeDiff, reduceIte, reduceCtorEq, ↓dncl, ↓dnlf, gtr, Heap.lt gtr, xt1.2, xt1.ltT, xt1.leT, gtq2, Heap.lt gtq2, gto2, Heap.lt gto2]
  have x02 : Ext [] σ σ2 := by subst hσ2; repeat (first | exact Ext.refl _ _ | assumption | refine Ext.push ?_ _ | ((refine Ext.set ?_ ?_ _); rotate_left; · (simp (maxSteps := 3000000) (maxDischargeDepth := 12) only [push_cast, appendX, Nat.reduceAdd, Nat.reduceEqDiff, Nat.reduceLT, Nat.reduceLeDiff, reduceIte, reduceCtorEq, ↓dncl, ↓dnlf, gtr, Heap.lt gtr, xt1.2, xt1.ltT, xt1.leT, gtq2, Heap.lt gtq2, gto2, Heap.lt gto2, gtx2, Heap.lt gtx2])) | ((refine Ext.then1 (by assumption) ?_ ?_); rotate_left; · (intro p hp _; first | assumption | exact List.mem_cons_of_mem _ hp | (cases hp; done) | (simp at hp; subst hp; simp))))
  have hn2 : σ1.n + 3 = σ2.n := by subst hσ2; simp
  clear hσ2 xt1
  have hun : unpA c k b = if (takI c b).1.ok = true ∧ kindI c = k ∧ (takI c b).1.s.2 = 0 ∧ (takI c b).1.s.1.length = 0 then ((takI c b).2.1, (takI c b).2.2, 0) else (zF 0, [], 5) := rfl
  have hthr := through_tak σ2 hA2 gtq2 hb hc
  revert hun hthr
  generalize takI c b = R
  obtain ⟨⟨ok, l, e⟩, w, L⟩ := R
  intro hun hthr
  simp only at hun hthr
  repeat (first | (with_reducible first | refine AW.seq ?_ | refine AW.block ?_ | refine AW.skip ?_ | refine AW.ret ?_ | refine AW.exit ?_ | refine AW.reg hT ?_) | ((with_reducible refine AW.cond_true ?_ ?_); · rfl) | ((with_reducible refine AW.cond_false ?_ ?_); · rfl) | simp (maxSteps := 3000000) (maxDischargeDepth := 12) only [seval,push_cast,appendX,Try.results27,↓dncl,↓dnlf,gtr,Heap.lt gtr,gtq2,Heap.lt gtq2,gto2,Heap.lt gto2,gtx2,Heap.lt gtx2])
  refine AOpsL.call (first := []) (cap := []) hT rfl rfl rfl fn56 rfl (ACalls.mono (hthr) ?_)
  rintro y σ3 ⟨rfl, dl, ⟨gtq3, hh3⟩, hd3, fp3, hA3, xt3, hn3⟩
  have gtg3 := hA3.1
  obtain ⟨r3, rfl, hpr3, ho3, gtp3, gtr3⟩ := hA3.2.2
  have gto3 := xt3.get gto2 (by simp; omega)
  have gtx3 := xt3.get gtx2 (by simp; omega)
  have x03 : Ext [] σ σ3 := x02.then xt3 (fun q hq hl => by simp at hq; omega)
  have dncl3 := hh3.cells
  have dnlf3 := hh3.leaf
  have hno : unpA c k b = (zF 0, [], 5) → ∀ (σ4 : Heap) (y : DV), y = .tup [.agg (itC (zF 0) (.sc (.slice none 0 0))), .sc (.int .i64 5)] → Ext [] σ σ4 → Ext [] σ σ4 ∧ ∃ dl, y = .tup [.agg (itC (unpA c k b).1 dl), .sc (.int .i64 (unpA c k b).2.2)] ∧ Hold σ4 dl 3 ((unpA c k b).2.1.map eI) ∧ (∀ r ∈ tOf dl, σ.n ≤ r) := fun h σ4 y hy hx => by
    rw [h]
    exact ⟨hx, _, hy, Hold.nil _ _, by simp [tOf]⟩
  cases ok with
  | false =>
    repeat (first | (with_reducible first | refine AW.seq ?_ | refine AW.block ?_ | refine AW.skip ?_ | refine AW.ret ?_ | refine AW.exit ?_ | refine AW.reg hT ?_) | ((with_reducible refine AW.cond_true ?_ ?_); · rfl) | ((with_reducible refine AW.cond_false ?_ ?_); · rfl) | simp (maxSteps := 3000000) (maxDischargeDepth := 12) only [seval,push_cast,appendX,Try.results27,GonO,↓dncl,↓dnlf,gtr,Heap.lt gtr,gtq2,Heap.lt gtq2,gto2,Heap.lt gto2,gtx2,Heap.lt gtx2,gtq3,Heap.lt gtq3,xt3.2,xt3.ltT,xt3.leT,gtg3,Heap.lt gtg3,gtp3,Heap.lt gtp3,gtr3,Heap.lt gtr3,gto3,Heap.lt gto3,gtx3,Heap.lt gtx3,↓dncl3,↓dnlf3])
    exact hno (by rw [hun, if_neg (by simp)]) _ _ rfl (by repeat (first | exact Ext.refl _ _ | assumption | refine Ext.push ?_ _ | ((refine Ext.set ?_ ?_ _); rotate_left; · (simp (maxSteps := 3000000) (maxDischargeDepth := 12) only [push_cast, appendX, Nat.reduceAdd, Nat.reduceEqDiff, Nat.reduceLT, Nat.reduceLeDiff, reduceIte, reduceCtorEq, ↓dncl, ↓dnlf, gtr, Heap.lt gtr, gtq2, Heap.lt gtq2, gto2, Heap.lt gto2, gtx2, Heap.lt gtx2, gtq3, Heap.lt gtq3, xt3.2, xt3.ltT, xt3.leT, gtg3, Heap.lt gtg3, gtp3, Heap.lt gtp3, gtr3, Heap.lt gtr3, gto3, Heap.lt gto3, gtx3, Heap.lt gtx3, ↓dncl3, ↓dnlf3])) | ((refine Ext.then1 (by assumption) ?_ ?_); rotate_left; · (intro p hp _; first | assumption | exact List.mem_cons_of_mem _ hp | (cases hp; done) | (simp at hp; subst hp; simp)))))
  | true =>
    by_cases hk : kindI c = k
    · have dck : (kindI c == k) = true := by simpa using hk
      repeat (first | (with_reducible first | refine AW.seq ?_ | refine AW.block ?_ | refine AW.skip ?_ | refine AW.ret ?_ | refine AW.exit ?_ | refine AW.reg hT ?_) | ((with_reducible refine AW.cond_true ?_ ?_); · rfl) | ((with_reducible refine AW.cond_false ?_ ?_); · rfl) | simp (maxSteps := 3000000) (maxDischargeDepth := 12) only [seval,push_cast,appendX,Try.results27,GonO,TakO,↓dncl,↓dnlf,gtr,Heap.lt gtr,gtq2,Heap.lt gtq2,gto2,Heap.lt gto2,gtx2,Heap.lt gtx2,gtq3,Heap.lt gtq3,xt3.2,xt3.ltT,xt3.leT,gtg3,Heap.lt gtg3,gtp3,Heap.lt gtp3,gtr3,Heap.lt gtr3,gto3,Heap.lt gto3,gtx3,Heap.lt gtx3,↓dncl3,↓dnlf3,dck])
      refine AOpsL.call (first := []) (cap := []) hT rfl rfl rfl fn39 rfl (ACalls.mono (err_ok _ gtr3) ?_)
      rintro y σ4 ⟨rfl, rfl⟩
      by_cases he : e = 0
      · have dce : (e == 0) = true := by simpa using he
        repeat (first | (with_reducible first | refine AW.seq ?_ | refine AW.block ?_ | refine AW.skip ?_ | refine AW.ret ?_ | refine AW.exit ?_ | refine AW.reg hT ?_) | ((with_reducible refine AW.cond_true ?_ ?_); · rfl) | ((with_reducible refine AW.cond_false ?_ ?_); · rfl) | simp (maxSteps := 3000000) (maxDischargeDepth := 12) only [seval,push_cast,appendX,Try.results27,GonO,TakO,↓dncl,↓dnlf,gtr,Heap.lt gtr,gtq2,Heap.lt gtq2,gto2,Heap.lt gto2,gtx2,Heap.lt gtx2,gtq3,Heap.lt gtq3,xt3.2,xt3.ltT,xt3.leT,gtg3,Heap.lt gtg3,gtp3,Heap.lt gtp3,gtr3,Heap.lt gtr3,gto3,Heap.lt gto3,gtx3,Heap.lt gtx3,↓dncl3,↓dnlf3,dck,dce])
        refine AOpsL.call (first := []) (cap := []) hT rfl rfl rfl fn36 rfl (ACalls.mono (left_ok _ gtr3) ?_)
        rintro y σ5 ⟨rfl, rfl⟩
        by_cases hl : l.length = 0
        · have dcl : decide (0 < (l.length : Int)) = false := decide_eq_false (by omega)
          have hy : unpA c k b = (w, L, 0) := by rw [hun, if_pos ⟨rfl, hk, he, hl⟩]
          repeat (first | (with_reducible first | refine AW.seq ?_ | refine AW.block ?_ | refine AW.skip ?_ | refine AW.ret ?_ | refine AW.exit ?_ | refine AW.reg hT ?_) | ((with_reducible refine AW.cond_true ?_ ?_); · rfl) | ((with_reducible refine AW.cond_false ?_ ?_); · rfl) | simp (maxSteps := 3000000) (maxDischargeDepth := 12) only [seval,push_cast,appendX,Try.results27,GonO,TakO,ItO,itC,↓dncl,↓dnlf,gtr,Heap.lt gtr,gtq2,Heap.lt gtq2,gto2,Heap.lt gto2,gtx2,Heap.lt gtx2,gtq3,Heap.lt gtq3,xt3.2,xt3.ltT,xt3.leT,gtg3,Heap.lt gtg3,gtp3,Heap.lt gtp3,gtr3,Heap.lt gtr3,gto3,Heap.lt gto3,gtx3,Heap.lt gtx3,↓dncl3,↓dnlf3,dck,dce,dcl])
          rw [hy]
          refine ⟨by repeat (first | exact Ext.refl _ _ | assumption | refine Ext.push ?_ _ | ((refine Ext.set ?_ ?_ _); rotate_left; · (simp (maxSteps := 3000000) (maxDischargeDepth := 12) only [push_cast, appendX, Nat.reduceAdd, Nat.reduceEqDiff, Nat.reduceLT, Nat.reduceLeDiff, reduceIte, reduceCtorEq, ↓dncl, ↓dnlf, gtr, Heap.lt gtr, gtq2, Heap.lt gtq2, gto2, Heap.lt gto2, gtx2, Heap.lt gtx2, gtq3, Heap.lt gtq3, xt3.2, xt3.ltT, xt3.leT, gtg3, Heap.lt gtg3, gtp3, Heap.lt gtp3, gtr3, Heap.lt gtr3, gto3, Heap.lt gto3, gtx3, Heap.lt gtx3, ↓dncl3, ↓dnlf3, dck, dce, dcl])) | ((refine Ext.then1 (by assumption) ?_ ?_); rotate_left; · (intro p hp _; first | assumption | exact List.mem_cons_of_mem _ hp | (cases hp; done) | (simp at hp; subst hp; simp)))), dl, rfl, hh3.frame (X := [σ.n + 1]) (by repeat (first | exact Ext.refl _ _ | assumption | refine Ext.push ?_ _ | ((refine Ext.set ?_ ?_ _); rotate_left; · (simp (maxSteps := 3000000) (maxDischargeDepth := 12) only [push_cast, appendX, Nat.reduceAdd, Nat.reduceEqDiff, Nat.reduceLT, Nat.reduceLeDiff, reduceIte, reduceCtorEq, ↓dncl, ↓dnlf, gtr, Heap.lt gtr, gtq2, Heap.lt gtq2, gto2, Heap.lt gto2, gtx2, Heap.lt gtx2, gtq3, Heap.lt gtq3, xt3.2, xt3.ltT, xt3.leT, gtg3, Heap.lt gtg3, gtp3, Heap.lt gtp3, gtr3, Heap.lt gtr3, gto3, Heap.lt gto3, gtx3, Heap.lt gtx3, ↓dncl3, ↓dnlf3, dck, dce, dcl])) | ((refine Ext.then1 (by assumption) ?_ ?_); rotate_left; · (intro p hp _; first | assumption | exact List.mem_cons_of_mem _ hp | (cases hp; done) | (simp at hp; subst hp; simp))))) (fun q hq hm => ?_), fun q hq => ?_⟩
          · have h1 := hd3 q hq
            rcases List.mem_cons.1 hm with h2 | h2
            · omega
            · cases h2
          · have h1 := hd3 q hq
            have h2 := x02.1
            omega
        · have dcl : decide (0 < (l.length : Int)) = true := decide_eq_true (by omega)
          repeat (first | (with_reducible first | refine AW.seq ?_ | refine AW.block ?_ | refine AW.skip ?_ | refine AW.ret ?_ | refine AW.exit ?_ | refine AW.reg hT ?_) | ((with_reducible refine AW.cond_true ?_ ?_); · rfl) | ((with_reducible refine AW.cond_false ?_ ?_); · rfl) | simp (maxSteps := 3000000) (maxDischargeDepth := 12) only [seval,push_cast,appendX,Try.results27,GonO,TakO,↓dncl,↓dnlf,gtr,Heap.lt gtr,gtq2,Heap.lt gtq2,gto2,Heap.lt gto2,gtx2,Heap.lt gtx2,gtq3,Heap.lt gtq3,xt3.2,xt3.ltT,xt3.leT,gtg3,Heap.lt gtg3,gtp3,Heap.lt gtp3,gtr3,Heap.lt gtr3,gto3,Heap.lt gto3,gtx3,Heap.lt gtx3,↓dncl3,↓dnlf3,dck,dce,dcl])
          exact hno (by rw [hun, if_neg (fun h => hl h.2.2.2)]) _ _ rfl (by repeat (first | exact Ext.refl _ _ | assumption | refine Ext.push ?_ _ | ((refine Ext.set ?_ ?_ _); rotate_left; · (simp (maxSteps := 3000000) (maxDischargeDepth := 12) only [push_cast, appendX, Nat.reduceAdd, Nat.reduceEqDiff, Nat.reduceLT, Nat.reduceLeDiff, reduceIte, reduceCtorEq, ↓dncl, ↓dnlf, gtr, Heap.lt gtr, gtq2, Heap.lt gtq2, gto2, Heap.lt gto2, gtx2, Heap.lt gtx2, gtq3, Heap.lt gtq3, xt3.2, xt3.ltT, xt3.leT, gtg3, Heap.lt gtg3, gtp3, Heap.lt gtp3, gtr3, Heap.lt gtr3, gto3, Heap.lt gto3, gtx3, Heap.lt gtx3, ↓dncl3, ↓dnlf3, dck, dce, dcl])) | ((refine Ext.then1 (by assumption) ?_ ?_); rotate_left; · (intro p hp _; first | assumption | exact List.mem_cons_of_mem _ hp | (cases hp; done) | (simp at hp; subst hp; simp)))))
      · have dce : (e == 0) = false := by simpa using he
        repeat (first | (with_reducible first | refine AW.seq ?_ | refine AW.block ?_ | refine AW.skip ?_ | refine AW.ret ?_ | refine AW.exit ?_ | refine AW.reg hT ?_) | ((with_reducible refine AW.cond_true ?_ ?_); · rfl) | ((with_reducible refine AW.cond_false ?_ ?_); · rfl) | simp (maxSteps := 3000000) (maxDischargeDepth := 12) only [seval,push_cast,appendX,Try.results27,GonO,TakO,↓dncl,↓dnlf,gtr,Heap.lt gtr,gtq2,Heap.lt gtq2,gto2,Heap.lt gto2,gtx2,Heap.lt gtx2,gtq3,Heap.lt gtq3,xt3.2,xt3.ltT,xt3.leT,gtg3,Heap.lt gtg3,gtp3,Heap.lt gtp3,gtr3,Heap.lt gtr3,gto3,Heap.lt gto3,gtx3,Heap.lt gtx3,↓dncl3,↓dnlf3,dck,dce])
        exact hno (by rw [hun, if_neg (fun h => he h.2.2.1)]) _ _ rfl (by repeat (first | exact Ext.refl _ _ | assumption | refine Ext.push ?_ _ | ((refine Ext.set ?_ ?_ _); rotate_left; · (simp (maxSteps := 3000000) (maxDischargeDepth := 12) only [push_cast, appendX, Nat.reduceAdd, Nat.reduceEqDiff, Nat.reduceLT, Nat.reduceLeDiff, reduceIte, reduceCtorEq, ↓dncl, ↓dnlf, gtr, Heap.lt gtr, gtq2, Heap.lt gtq2, gto2, Heap.lt gto2, gtx2, Heap.lt gtx2, gtq3, Heap.lt gtq3, xt3.2, xt3.ltT, xt3.leT, gtg3, Heap.lt gtg3, gtp3, Heap.lt gtp3, gtr3, Heap.lt gtr3, gto3, Heap.lt gto3, gtx3, Heap.lt gtx3, ↓dncl3, ↓dnlf3, dck, dce])) | ((refine Ext.then1 (by assumption) ?_ ?_); rotate_left; · (intro p hp _; first | assumption | exact List.mem_cons_of_mem _ hp | (cases hp; done) | (simp at hp; subst hp; simp)))))
    · have dck : (kindI c == k) = false := by simpa using hk
      repeat (first | (with_reducible first | refine AW.seq ?_ | refine AW.block ?_ | refine AW.skip ?_ | refine AW.ret ?_ | refine AW.exit ?_ | refine AW.reg hT ?_) | ((with_reducible refine AW.cond_true ?_ ?_); · rfl) | ((with_reducible refine AW.cond_false ?_ ?_); · rfl) | simp (maxSteps := 3000000) (maxDischargeDepth := 12) only [seval,push_cast,appendX,Try.results27,GonO,↓dncl,↓dnlf,gtr,Heap.lt gtr,gtq2,Heap.lt gtq2,gto2,Heap.lt gto2,gtx2,Heap.lt gtx2,gtq3,Heap.lt gtq3,xt3.2,xt3.ltT,xt3.leT,gtg3,Heap.lt gtg3,gtp3,Heap.lt gtp3,gtr3,Heap.lt gtr3,gto3,Heap.lt gto3,gtx3,Heap.lt gtx3,↓dncl3,↓dnlf3,dck])
      exact hno (by rw [hun, if_neg (fun h => hk h.2.1)]) _ _ rfl (by repeat (first | exact Ext.refl _ _ | assumption | refine Ext.push ?_ _ | ((refine Ext.set ?_ ?_ _); rotate_left; · (simp (maxSteps := 3000000) (maxDischargeDepth := 12) only [push_cast, appendX, Nat.reduceAdd, Nat.reduceEqDiff, Nat.reduceLT, Nat.reduceLeDiff, reduceIte, reduceCtorEq, ↓dncl, ↓dnlf, gtr, Heap.lt gtr, gtq2, Heap.lt gtq2, gto2, Heap.lt gto2, gtx2, Heap.lt gtx2, gtq3, Heap.lt gtq3, xt3.2, xt3.ltT, xt3.leT, gtg3, Heap.lt gtg3, gtp3, Heap.lt gtp3, gtr3, Heap.lt gtr3, gto3, Heap.lt gto3, gtx3, Heap.lt gtx3, ↓dncl3, ↓dnlf3, dck])) | ((refine Ext.then1 (by assumption) ?_ ?_); rotate_left; · (intro p hp _; first | assumption | exact List.mem_cons_of_mem _ hp | (cases hp; done) | (simp at hp; subst hp; simp)))))
def itPre (y : Fs) : List DV := [.sc (.int .i64 y.cls), .sc (.int .i64 y.a), .sc (.int .i64 y.b), .sc (.int .i64 y.c), .sc (.int .u64 y.u)]
def itPost (y : Fs) : List DV := [.sc (.int .u64 y.bw), .sc (.int .i64 y.su), .sc (.int .i64 y.ho), .sc (.int .u32 y.an), .sc (.int .u32 y.al), .sc (.int .u32 y.no)]
/-- The row of an item in memory is written no more. -/
theorem AW.holdItem {P : Program} {code : Code} {ts : List DV} {σ : Heap} {Q : Exit → List DV → Heap → Prop} {q : Nat} {y : Fs} {d : DV} {L : List Int} (hh : Hold σ d 3 (L.map eI)) (gtq : σ.get q = some (ItO y d))
    (h : ∀ σ', Ext (q :: tOf d) σ σ' → σ'.get q = some (ItO y (.imm (L.map eI))) → AW P code ts σ' Q) : AW P code ts σ Q :=
  AW.holdCell (pre := itPre y) (post := itPost y) hh gtq (hh.ne gtq (by simp [ItO])) h
theorem eqW (x y : Fs) : ∃ b, eqAggD T 38 [.sc (.int .u64 x.bw), .sc (.int .i64 x.su), .sc (.int .i64 x.ho), .sc (.int .u32 x.an), .sc (.int .u32 x.al), .sc (.int .u32 x.no)] [.sc (.int .u64 y.bw), .sc (.int .i64 y.su), .sc (.int .i64 y.ho), .sc (.int .u32 y.an), .sc (.int .u32 y.al), .sc (.int .u32 y.no)] = some b ∧ (b = true ↔ x.bw = y.bw ∧ x.su = y.su ∧ x.ho = y.ho ∧ x.an = y.an ∧ x.al = y.al ∧ x.no = y.no) := by
  refine ⟨_, rfl, ?_⟩
  simp [eqvL, eqv]
theorem Fs.ext_iff' (x y : Fs) : x = y ↔ x.cls = y.cls ∧ x.a = y.a ∧ x.b = y.b ∧ x.c = y.c ∧ x.u = y.u ∧ x.bw = y.bw ∧ x.su = y.su ∧ x.ho = y.ho ∧ x.an = y.an ∧ x.al = y.al ∧ x.no = y.no := by
  obtain ⟨_, _, _, _, _, _, _, _, _, _, _⟩ := x
  obtain ⟨_, _, _, _, _, _, _, _, _, _, _⟩ := y
  simp
def smI (L M : List Int) (p q : Nat) (σ0 : Heap) (m : Nat) (ts : List DV) (σ : Heap) : Prop := ∃ i, m = L.length + 1 - i ∧ i ≤ L.length ∧ L.take i = M.take i ∧ σ = σ0 ∧ TellsL ts (.any :: .any :: .ptr p 0 0 1 :: .ptr q 0 0 1 :: .any :: .any :: .any :: .any :: .any :: .any :: .any :: .any :: .any :: .any :: .any :: .sc (.int .i64 L.length) :: .sc (.int .i64 i) :: .any :: .any :: .any :: .any :: .any :: .any :: .any :: .any :: .any :: .any :: .any :: .any :: .any :: .any :: .any :: .any :: .any :: .any :: .any :: .any :: .any :: .any :: .any :: .any :: .any :: .any :: .any :: .any :: .any :: .any :: .any :: .any :: .any :: .any :: .any :: .any :: .any :: .any :: .any :: .any :: .any :: .any :: .any :: .any :: .any :: .any :: .any :: .any :: .any :: .any :: .any :: .any :: .any :: .any :: [])
theorem same_ok (σ : Heap) {x y : Fs} {L M : List Int} {d : DV} (hh : Hold σ d 3 (M.map eI)) (hL : L.length ≤ 1000000) : ACalls Try.prog 59 [.agg (itC x (.imm (L.map eI))), .agg (itC y d)] σ (fun r σ' => Ext (tOf d) σ σ' ∧ ∃ b : Bool, r = .sc (.bool b) ∧ (b = true ↔ x = y ∧ L = M)) := by
  have dncl := hh.cells
  have dnlf := hh.leaf
  have hlt := hh.lt
  refine ACalls.code hT Try.func59 rfl ?_
  simp only [Try.ntmps59, List.length_cons, List.length_nil, Nat.reduceSub, Nat.reduceAdd, List.replicate, List.cons_append, List.nil_append]
  repeat ((fail_if_success (with_reducible refine AW.at1 (id := 1) ?_)); (fail_if_success (with_reducible refine AW.at2 (id := 1) ?_)); first | (with_reducible refine AW.seq ?_) | (with_reducible refine AW.block ?_) | (with_reducible refine AW.skip ?_) | (with_reducible refine AW.ret ?_) | (with_reducible refine AW.exit ?_) | (with_reducible refine AW.reg hT ?_) | ((with_reducible refine AW.cond_true ?_ ?_); · rfl) | ((with_reducible refine AW.cond_false ?_ ?_); · rfl) | simp (maxSteps := 3000000) (maxDischargeDepth := 12) only [push_cast,appendX,reduceIte,reduceCtorEq,Nat.reduceSub,Nat.reduceAdd,Nat.reduceMul,Nat.reduceLT,Nat.reduceLeDiff,Nat.reduceEqDiff,Nat.reduceBEq,Int.reduceToNat,Int.reduceLT,Int.reduceLE,Int.reduceEq,Int.reduceNeg,Try.results59,itC,↓dncl,↓dnlf])
  refine AW.name (fun σ1 hσ1 => ?_)
  have gtp1 : σ1.get σ.n = some (ItO x (.imm (L.map eI))) := by subst hσ1; simp (maxSteps := 3000000) (maxDischargeDepth := 12) only [push_cast, appendX, Nat.reduceAdd, Nat.reduceEqDiff, Nat.reduceLT, Nat.reduceLeDiff, reduceIte, reduceCtorEq, ItO, itC, ↓dncl, ↓dnlf]
  have gtq1 : σ1.get (σ.n + 1) = some (ItO y d) := by subst hσ1; simp (maxSteps := 3000000) (maxDischargeDepth := 12) only [push_cast, appendX, Nat.reduceAdd, Nat.reduceEqDiff, Nat.reduceLT, Nat.reduceLeDiff, reduceIte, reduceCtorEq, ItO, itC, ↓dncl, ↓dnlf, gtp1, Heap.lt gtp1]
  have x01 : Ext [] σ σ1 := by subst hσ1; repeat (first | exact Ext.refl _ _ | assumption | refine Ext.push ?_ _ | ((refine Ext.set ?_ ?_ _); rotate_left; · (simp (maxSteps := 3000000) (maxDischargeDepth := 12) only [push_cast, appendX, Nat.reduceAdd, Nat.reduceEqDiff, Nat.reduceLT, Nat.reduceLeDiff, reduceIte, reduceCtorEq, ↓dncl, ↓dnlf, gtp1, Heap.lt gtp1, gtq1, Heap.lt gtq1])) | ((refine Ext.then1 (by assumption) ?_ ?_); rotate_left; · (intro p hp _; first | assumption | exact List.mem_cons_of_mem _ hp | (cases hp; done) | (simp at hp; subst hp; simp))))
  clear hσ1
  refine AW.holdItem (hh.frame x01 (by simp)) gtq1 ?_
  intro σ2 xt2 gtq2
  have gtp2 := xt2.get gtp1 (by simp; intro hm; have := hlt _ hm; omega)
  have x02 : Ext (tOf d) σ σ2 := (x01.mono (by simp)).then xt2 (fun q hq hl => by
    rcases List.mem_cons.1 hq with rfl | hq
    · omega
    · exact hq)
  have hne : σ.n ≠ σ.n + 1 := by omega
  generalize σ.n = p at gtp2 gtq2 hne ⊢
  generalize p + 1 = q at gtq2 hne ⊢
  clear gtp1 gtq1 x01 xt2
  have gtq2 := gtq2
  have del : (L.map eI).length = L.length := List.length_map ..
  have dem : (M.map eI).length = M.length := List.length_map ..
  by_cases hlm : L.length = M.length
  · have dclm : ((L.length : Int) == (M.length : Int)) = true := by simp [hlm]
    repeat (first | (with_reducible refine AW.seq ?_) | (with_reducible refine AW.block ?_) | (with_reducible refine AW.skip ?_) | (with_reducible refine AW.ret ?_) | (with_reducible refine AW.exit ?_) | (with_reducible refine AW.reg hT ?_) | ((with_reducible refine AW.cond_true ?_ ?_); · rfl) | ((with_reducible refine AW.cond_false ?_ ?_); · rfl) | simp (maxSteps := 3000000) (maxDischargeDepth := 12) only [push_cast,appendX,reduceIte,reduceCtorEq,Nat.reduceSub,Nat.reduceAdd,Nat.reduceMul,Nat.reduceLT,Nat.reduceLeDiff,Nat.reduceEqDiff,Nat.reduceBEq,Int.reduceToNat,Int.reduceLT,Int.reduceLE,Int.reduceEq,Int.reduceNeg,Try.results59,ItO,itC,del,dem,↓dncl,↓dnlf,gtq2,Heap.lt gtq2,gtp2,Heap.lt gtp2,dclm])
    refine AW.loop (smI L M p q σ2) (m := L.length + 1) ⟨0, rfl, Nat.zero_le _, rfl, rfl, by (simp only [push_cast, TellsL, tells_any, tells_refl])⟩ ?_
    rintro m ts σ3 ⟨i, rfl, hi, htk, rfl, hts⟩
    refine AW.told hts ?_
    clear hts
    by_cases hlt : i < L.length
    · have dci : decide ((i : Int) < (L.length : Int)) = true := by simp; omega
      have dci2 : ((i : Int) < (L.length : Int)) = True := by simp; omega
      have dci3 : ((i : Int) < (M.length : Int)) = True := by simp; omega
      have dci0 : ((0 : Int) ≤ (i : Int)) = True := by simp
      have dcw : IntKind.i64.wrap ((i : Int) + 1) = (i : Int) + 1 := wrap_i64 (by omega) (by omega)
      have hlm2 : i < M.length := by omega
      have dcel : (L.map eI)[i]? = some [.sc (.int .i64 L[i])] := by rw [List.getElem?_map, List.getElem?_eq_getElem hlt]; rfl
      have dcem : (M.map eI)[i]? = some [.sc (.int .i64 M[i])] := by rw [List.getElem?_map, List.getElem?_eq_getElem hlm2]; rfl
      by_cases he : L[i] = M[i]
      · have dce : (L[i] == M[i]) = true := by simpa using he
        repeat (first | (with_reducible refine AW.seq ?_) | (with_reducible refine AW.block ?_) | (with_reducible refine AW.skip ?_) | (with_reducible refine AW.ret ?_) | (with_reducible refine AW.exit ?_) | (with_reducible refine AW.reg hT ?_) | ((with_reducible show AW _ (.region 6 _ _) _ _ _); (with_reducible refine AW.drawn (id := 6) hT [0,1,2,3,4,5,6,7,8,9,10] [[],[0],[],[0,1,2],[0,1,2,3],[],[5],[],[5,6,7],[5,6,7,8],[0,1,2,3,4,5,6,7,8,9]] mix (by kernel_rfl) ?_)) | ((with_reducible show DLeft _ _ _ _ (_ :: _) _ _ _ _); (with_reducible apply DLeft.step hT); (case hoi => ((simp only [List.getElem?_toArray,List.getElem?_cons_zero,List.getElem?_cons_succ]); with_reducible rfl)); (case hg => rfl); (case hk => rfl); (case hr => ((try simp (maxSteps := 3000000) (maxDischargeDepth := 12) only [push_cast,appendX,reduceIte,reduceCtorEq,Nat.reduceSub,Nat.reduceAdd,Nat.reduceMul,Nat.reduceLT,Nat.reduceLeDiff,Nat.reduceEqDiff,Nat.reduceBEq,Int.reduceToNat,Int.reduceLT,Int.reduceLE,Int.reduceEq,Int.reduceNeg,Try.results59,ItO,itC,del,dem,↓dncl,↓dnlf,gtq2,Heap.lt gtq2,gtp2,Heap.lt gtp2,dclm,dci,dci2,dci3,dci0,dcw,dcel,dcem,dce]); with_reducible rfl))) | ((with_reducible refine AW.cond_true ?_ ?_); · rfl) | ((with_reducible refine AW.cond_false ?_ ?_); · rfl) | simp (maxSteps := 3000000) (maxDischargeDepth := 12) only [push_cast,appendX,reduceIte,reduceCtorEq,Nat.reduceSub,Nat.reduceAdd,Nat.reduceMul,Nat.reduceLT,Nat.reduceLeDiff,Nat.reduceEqDiff,Nat.reduceBEq,Int.reduceToNat,Int.reduceLT,Int.reduceLE,Int.reduceEq,Int.reduceNeg,Try.results59,ItO,itC,del,dem,↓dncl,↓dnlf,gtq2,Heap.lt gtq2,gtp2,Heap.lt gtp2,dclm,dci,dci2,dci3,dci0,dcw,dcel,dcem,dce])
        have hic : (((i + 1 : Nat)) : Int) = (i : Int) + 1 := by omega
        exact ⟨L.length + 1 - (i + 1), by omega, i + 1, rfl, hlt, by rw [List.take_succ_eq_append_getElem hlt, List.take_succ_eq_append_getElem hlm2, htk, he], rfl, by (simp only [push_cast, TellsL, tells_any, tells_refl, hic])⟩
      · have dce : (L[i] == M[i]) = false := by simpa using he
        repeat (first | (with_reducible refine AW.seq ?_) | (with_reducible refine AW.block ?_) | (with_reducible refine AW.skip ?_) | (with_reducible refine AW.ret ?_) | (with_reducible refine AW.exit ?_) | (with_reducible refine AW.reg hT ?_) | ((with_reducible show AW _ (.region 6 _ _) _ _ _); (with_reducible refine AW.drawn (id := 6) hT [0,1,2,3,4,5,6,7,8,9,10] [[],[0],[],[0,1,2],[0,1,2,3],[],[5],[],[5,6,7],[5,6,7,8],[0,1,2,3,4,5,6,7,8,9]] mix (by kernel_rfl) ?_)) | ((with_reducible show DLeft _ _ _ _ (_ :: _) _ _ _ _); (with_reducible apply DLeft.step hT); (case hoi => ((simp only [List.getElem?_toArray,List.getElem?_cons_zero,List.getElem?_cons_succ]); with_reducible rfl)); (case hg => rfl); (case hk => rfl); (case hr => ((try simp (maxSteps := 3000000) (maxDischargeDepth := 12) only [push_cast,appendX,reduceIte,reduceCtorEq,Nat.reduceSub,Nat.reduceAdd,Nat.reduceMul,Nat.reduceLT,Nat.reduceLeDiff,Nat.reduceEqDiff,Nat.reduceBEq,Int.reduceToNat,Int.reduceLT,Int.reduceLE,Int.reduceEq,Int.reduceNeg,Try.results59,ItO,itC,del,dem,↓dncl,↓dnlf,gtq2,Heap.lt gtq2,gtp2,Heap.lt gtp2,dclm,dci,dci2,dci3,dci0,dcw,dcel,dcem,dce]); with_reducible rfl))) | ((with_reducible refine AW.cond_true ?_ ?_); · rfl) | ((with_reducible refine AW.cond_false ?_ ?_); · rfl) | simp (maxSteps := 3000000) (maxDischargeDepth := 12) only [push_cast,appendX,reduceIte,reduceCtorEq,Nat.reduceSub,Nat.reduceAdd,Nat.reduceMul,Nat.reduceLT,Nat.reduceLeDiff,Nat.reduceEqDiff,Nat.reduceBEq,Int.reduceToNat,Int.reduceLT,Int.reduceLE,Int.reduceEq,Int.reduceNeg,Try.results59,ItO,itC,del,dem,↓dncl,↓dnlf,gtq2,Heap.lt gtq2,gtp2,Heap.lt gtp2,dclm,dci,dci2,dci3,dci0,dcw,dcel,dcem,dce])
        refine ⟨x02, false, rfl, by simp; intro _ h; subst h; exact he rfl⟩
    · have dci : decide ((i : Int) < (L.length : Int)) = false := by simp; omega
      have hLM : L = M := by
        have e1 : L.take i = L := List.take_of_length_le (by omega)
        have e2 : M.take i = M := List.take_of_length_le (by omega)
        rw [e1, e2] at htk; exact htk
      obtain ⟨b, dnq, hbq⟩ := eqW x y
      have hiff := Fs.ext_iff' x y
      by_cases hA0 : x.cls = y.cls
      · have dcA0 : (x.cls == y.cls) = true := by simpa using hA0
        by_cases hA1 : x.a = y.a
        · have dcA1 : (x.a == y.a) = true := by simpa using hA1
          by_cases hA2 : x.b = y.b
          · have dcA2 : (x.b == y.b) = true := by simpa using hA2
            by_cases hA3 : x.c = y.c
            · have dcA3 : (x.c == y.c) = true := by simpa using hA3
              by_cases hA4 : x.u = y.u
              · have dcA4 : (x.u == y.u) = true := by simpa using hA4
                repeat (first | (with_reducible refine AW.seq ?_) | (with_reducible refine AW.block ?_) | (with_reducible refine AW.skip ?_) | (with_reducible refine AW.ret ?_) | (with_reducible refine AW.exit ?_) | (with_reducible refine AW.reg hT ?_) | ((with_reducible refine AW.cond_true ?_ ?_); · rfl) | ((with_reducible refine AW.cond_false ?_ ?_); · rfl) | simp (maxSteps := 3000000) (maxDischargeDepth := 12) only [push_cast,appendX,reduceIte,reduceCtorEq,Nat.reduceSub,Nat.reduceAdd,Nat.reduceMul,Nat.reduceLT,Nat.reduceLeDiff,Nat.reduceEqDiff,Nat.reduceBEq,Int.reduceToNat,Int.reduceLT,Int.reduceLE,Int.reduceEq,Int.reduceNeg,Try.results59,ItO,itC,del,dem,↓dncl,↓dnlf,gtq2,Heap.lt gtq2,gtp2,Heap.lt gtp2,dclm,dci,↓dnq,dcA0,dcA1,dcA2,dcA3,dcA4])
                exact ⟨x02, _, rfl, by rw [hiff]; simp [*]⟩
              · have dcA4 : (x.u == y.u) = false := by simpa using hA4
                repeat (first | (with_reducible refine AW.seq ?_) | (with_reducible refine AW.block ?_) | (with_reducible refine AW.skip ?_) | (with_reducible refine AW.ret ?_) | (with_reducible refine AW.exit ?_) | (with_reducible refine AW.reg hT ?_) | ((with_reducible refine AW.cond_true ?_ ?_); · rfl) | ((with_reducible refine AW.cond_false ?_ ?_); · rfl) | simp (maxSteps := 3000000) (maxDischargeDepth := 12) only [push_cast,appendX,reduceIte,reduceCtorEq,Nat.reduceSub,Nat.reduceAdd,Nat.reduceMul,Nat.reduceLT,Nat.reduceLeDiff,Nat.reduceEqDiff,Nat.reduceBEq,Int.reduceToNat,Int.reduceLT,Int.reduceLE,Int.reduceEq,Int.reduceNeg,Try.results59,ItO,itC,del,dem,↓dncl,↓dnlf,gtq2,Heap.lt gtq2,gtp2,Heap.lt gtp2,dclm,dci,↓dnq,dcA0,dcA1,dcA2,dcA3,dcA4])
                exact ⟨x02, _, rfl, by rw [hiff]; simp [*]⟩
            · have dcA3 : (x.c == y.c) = false := by simpa using hA3
              repeat (first | (with_reducible refine AW.seq ?_) | (with_reducible refine AW.block ?_) | (with_reducible refine AW.skip ?_) | (with_reducible refine AW.ret ?_) | (with_reducible refine AW.exit ?_) | (with_reducible refine AW.reg hT ?_) | ((with_reducible refine AW.cond_true ?_ ?_); · rfl) | ((with_reducible refine AW.cond_false ?_ ?_); · rfl) | simp (maxSteps := 3000000) (maxDischargeDepth := 12) only [push_cast,appendX,reduceIte,reduceCtorEq,Nat.reduceSub,Nat.reduceAdd,Nat.reduceMul,Nat.reduceLT,Nat.reduceLeDiff,Nat.reduceEqDiff,Nat.reduceBEq,Int.reduceToNat,Int.reduceLT,Int.reduceLE,Int.reduceEq,Int.reduceNeg,Try.results59,ItO,itC,del,dem,↓dncl,↓dnlf,gtq2,Heap.lt gtq2,gtp2,Heap.lt gtp2,dclm,dci,↓dnq,dcA0,dcA1,dcA2,dcA3])
              exact ⟨x02, _, rfl, by rw [hiff]; simp [*]⟩
          · have dcA2 : (x.b == y.b) = false := by simpa using hA2
            repeat (first | (with_reducible refine AW.seq ?_) | (with_reducible refine AW.block ?_) | (with_reducible refine AW.skip ?_) | (with_reducible refine AW.ret ?_) | (with_reducible refine AW.exit ?_) | (with_reducible refine AW.reg hT ?_) | ((with_reducible refine AW.cond_true ?_ ?_); · rfl) | ((with_reducible refine AW.cond_false ?_ ?_); · rfl) | simp (maxSteps := 3000000) (maxDischargeDepth := 12) only [push_cast,appendX,reduceIte,reduceCtorEq,Nat.reduceSub,Nat.reduceAdd,Nat.reduceMul,Nat.reduceLT,Nat.reduceLeDiff,Nat.reduceEqDiff,Nat.reduceBEq,Int.reduceToNat,Int.reduceLT,Int.reduceLE,Int.reduceEq,Int.reduceNeg,Try.results59,ItO,itC,del,dem,↓dncl,↓dnlf,gtq2,Heap.lt gtq2,gtp2,Heap.lt gtp2,dclm,dci,↓dnq,dcA0,dcA1,dcA2])
            exact ⟨x02, _, rfl, by rw [hiff]; simp [*]⟩
        · have dcA1 : (x.a == y.a) = false := by simpa using hA1
          repeat (first | (with_reducible refine AW.seq ?_) | (with_reducible refine AW.block ?_) | (with_reducible refine AW.skip ?_) | (with_reducible refine AW.ret ?_) | (with_reducible refine AW.exit ?_) | (with_reducible refine AW.reg hT ?_) | ((with_reducible refine AW.cond_true ?_ ?_); · rfl) | ((with_reducible refine AW.cond_false ?_ ?_); · rfl) | simp (maxSteps := 3000000) (maxDischargeDepth := 12) only [push_cast,appendX,reduceIte,reduceCtorEq,Nat.reduceSub,Nat.reduceAdd,Nat.reduceMul,Nat.reduceLT,Nat.reduceLeDiff,Nat.reduceEqDiff,Nat.reduceBEq,Int.reduceToNat,Int.reduceLT,Int.reduceLE,Int.reduceEq,Int.reduceNeg,Try.results59,ItO,itC,del,dem,↓dncl,↓dnlf,gtq2,Heap.lt gtq2,gtp2,Heap.lt gtp2,dclm,dci,↓dnq,dcA0,dcA1])
          exact ⟨x02, _, rfl, by rw [hiff]; simp [*]⟩
      · have dcA0 : (x.cls == y.cls) = false := by simpa using hA0
        repeat (first | (with_reducible refine AW.seq ?_) | (with_reducible refine AW.block ?_) | (with_reducible refine AW.skip ?_) | (with_reducible refine AW.ret ?_) | (with_reducible refine AW.exit ?_) | (with_reducible refine AW.reg hT ?_) | ((with_reducible refine AW.cond_true ?_ ?_); · rfl) | ((with_reducible refine AW.cond_false ?_ ?_); · rfl) | simp (maxSteps := 3000000) (maxDischargeDepth := 12) only [push_cast,appendX,reduceIte,reduceCtorEq,Nat.reduceSub,Nat.reduceAdd,Nat.reduceMul,Nat.reduceLT,Nat.reduceLeDiff,Nat.reduceEqDiff,Nat.reduceBEq,Int.reduceToNat,Int.reduceLT,Int.reduceLE,Int.reduceEq,Int.reduceNeg,Try.results59,ItO,itC,del,dem,↓dncl,↓dnlf,gtq2,Heap.lt gtq2,gtp2,Heap.lt gtp2,dclm,dci,↓dnq,dcA0])
        exact ⟨x02, _, rfl, by rw [hiff]; simp [*]⟩
  · have dclm : ((L.length : Int) == (M.length : Int)) = false := by simp; omega
    repeat (first | (with_reducible refine AW.seq ?_) | (with_reducible refine AW.block ?_) | (with_reducible refine AW.skip ?_) | (with_reducible refine AW.ret ?_) | (with_reducible refine AW.exit ?_) | (with_reducible refine AW.reg hT ?_) | ((with_reducible refine AW.cond_true ?_ ?_); · rfl) | ((with_reducible refine AW.cond_false ?_ ?_); · rfl) | simp (maxSteps := 3000000) (maxDischargeDepth := 12) only [push_cast,appendX,reduceIte,reduceCtorEq,Nat.reduceSub,Nat.reduceAdd,Nat.reduceMul,Nat.reduceLT,Nat.reduceLeDiff,Nat.reduceEqDiff,Nat.reduceBEq,Int.reduceToNat,Int.reduceLT,Int.reduceLE,Int.reduceEq,Int.reduceNeg,Try.results59,ItO,itC,del,dem,↓dncl,↓dnlf,gtq2,Heap.lt gtq2,gtp2,Heap.lt gtp2,dclm])
    exact ⟨x02, false, rfl, by simp; intro _ h; exact hlm (congrArg _ h)⟩
/-- What a layer lays of an item. -/
def layI (x : Fs) (L : List Int) : GS layF := if isL x.cls then (GS.hops (F := layF) ⟨true, ([], true)⟩ L).needs (decide (L.length ≤ 16)) else (thrI (F := layF) ⟨true, ([], true)⟩ x).1
instance : DecidableEq Fs := fun x y => decidable_of_iff _ (Fs.ext_iff' x y).symm
def packA (x : Fs) (L : List Int) : Int × Int × List Int × Int :=
  if L.length ≤ 16 ∧ (layI x L).ok = true ∧ (layI x L).s.2 = true ∧ (unpA x.cls (kindI x.cls) (layI x L).s.1).2.2 = 0 ∧ x = (unpA x.cls (kindI x.cls) (layI x L).s.1).1 ∧ L = (unpA x.cls (kindI x.cls) (layI x L).s.1).2.1 then (x.cls, kindI x.cls, (layI x L).s.1, 0) else (0, 0, [], 2)
theorem layN_octs {s : List Int × Bool} (h : Octs s.1) (n : Nat) (u : Int) : Octs (layN s n u).1.1 := by
  unfold layN
  split
  · exact h.append (digits_octs _ _)
  · exact h
theorem fix_octs {z : GS layF} (h : Octs z.s.1) (n : Nat) (u : Int) : Octs (z.fix n u).s.1 := layN_octs h n u
theorem node_octs {z : GS layF} (h : Octs z.s.1) (v : Int) : Octs (z.node v).1.s.1 := by
  unfold GS.node
  split
  · exact h
  · exact layN_octs h _ _
theorem stp_octs {z : GS layF} (h : Octs z.s.1) (x : Fs) (a : Stp) : Octs (z.stp x a).1.s.1 := by
  cases a with
  | fix n u => exact layN_octs h n u
  | node j => exact node_octs h _
  | int n j top =>
    simp only [GS.stp, GS.int]
    split
    · exact h
    · exact layN_octs h _ _
  | raw n j => exact layN_octs h _ _
theorem run_octs : ∀ (l : List Stp) {z : GS layF} (x : Fs), Octs z.s.1 → Octs (z.run x l).1.s.1
  | [], z, x, h => h
  | a :: l, z, x, h => run_octs l _ (stp_octs h x a)
theorem hops_octs : ∀ (l : List Int) {z : GS layF}, Octs z.s.1 → Octs (z.hops l).s.1
  | [], z, h => h
  | v :: l, z, h => hops_octs l (z := (z.hop v).1) (fix_octs (node_octs (fix_octs h 2 264) v) 2 8192)
theorem layI_octs (x : Fs) (L : List Int) : Octs (layI x L).s.1 := by
  unfold layI
  split
  · exact hops_octs L (by intro d hd; cases hd)
  · exact run_octs _ x (by intro d hd; cases hd)
theorem kindI_isL {c : Int} (h : isL c) : kindI c = 1 := by rcases h with h | h <;> simp [kindI, h]
/-- An item's fields, laid. -/
theorem through_lay (σ : Heap) {g p q : Nat} {fp : List Nat} {d : DV} {x : Fs} {L : List Int} (hA : GonAt layF σ g p fp ⟨true, ([], true)⟩) (hL : ListAt σ q x d L) (hw : x.Wf) (hl : L.length ≤ 16) :
    ACalls Try.prog 56 [.ptr g 0 0 1, .ptr q 0 0 1] σ (fun y σ' => y = .sc (.int .i64 (kindI x.cls)) ∧ (layI x L).s.1.length ≤ 1000000 ∧ GonTo layF σ σ' g p fp (q :: tOf d) (layI x L)) := by
  by_cases h : isL x.cls
  · have hll := list_lay σ hA hL (by show 0 + 8 * 48 ≤ 1000000; omega) hl
    have hlen : (layI x L).s.1.length ≤ 1000000 := by
      have : layF.fits (GS.hops (F := layF) ⟨true, ([], true)⟩ L).s 0 := GS.fits_hops L _ 0 (by show 0 + 8 * (3 * L.length + 0) ≤ 1000000; omega)
      have h2 : (GS.hops (F := layF) ⟨true, ([], true)⟩ L).s.1.length + 8 * 0 ≤ 1000000 := this
      simp only [layI, h, if_true]
      show (GS.hops (F := layF) ⟨true, ([], true)⟩ L).s.1.length ≤ 1000000
      omega
    have key : ∀ (y : DV) (σ' : Heap), (y = .tup [] ∧ ListAt σ' q x d L ∧ GonTo layF σ σ' g p fp (tOf d) ((GS.hops (F := layF) ⟨true, ([], true)⟩ L).needs (decide (L.length ≤ 16)))) → (y = .tup [] ∧ ((DV.sc (.int .i64 1) : DV) = .sc (.int .i64 (kindI x.cls)) ∧ (layI x L).s.1.length ≤ 1000000 ∧ GonTo layF σ σ' g p fp (q :: tOf d) (layI x L))) := fun y σ' hh => by
      rw [kindI_isL h]
      refine ⟨hh.1, rfl, hlen, ?_⟩
      simp only [layI, h, if_true]
      exact hh.2.2.mono (fun r hr => List.mem_cons_of_mem _ hr)
    rcases h with h | h
    · exact through_20 hL.1 h (hll.mono key)
    · exact through_21 hL.1 h (hll.mono key)
  · refine (through_ok (F := layF) (Thr.start hA hL.1 (by show 0 + 8 * 64 ≤ 1000000; omega)) hw h).mono ?_
    rintro y σ' ⟨h1, h2, h3, h4⟩
    have h3' : (thrI (F := layF) ⟨true, ([], true)⟩ x).1.s.1.length + 8 * 0 ≤ 1000000 := h3
    simp only [layI, h, if_false]
    exact ⟨h1, by omega, h4.mono (by simp)⟩
theorem pack_ok (σ : Heap) {x : Fs} {L : List Int} (hw : x.Wf) (hL : L.length ≤ 1000000) :
    ACalls Try.prog 32 [.agg (itC x (.imm (L.map eI)))] σ (fun y σ' => Ext [] σ σ' ∧ ∃ db, y = .tup [.agg [.sc (.int .i64 (packA x L).1), .sc (.int .i64 (packA x L).2.1), db], .sc (.int .i64 (packA x L).2.2.2)] ∧ Hold σ' db 5 (bytesD (packA x L).2.2.1) ∧ (∀ r ∈ tOf db, σ.n ≤ r)) := by
  have del : (L.map eI).length = L.length := List.length_map ..
  have hno : packA x L = (0, 0, [], 2) → ∀ (σ4 : Heap) (y : DV), y = .tup [.agg [.sc (.int .i64 0), .sc (.int .i64 0), .sc (.slice none 0 0)], .sc (.int .i64 2)] → Ext [] σ σ4 → Ext [] σ σ4 ∧ ∃ db, y = .tup [.agg [.sc (.int .i64 (packA x L).1), .sc (.int .i64 (packA x L).2.1), db], .sc (.int .i64 (packA x L).2.2.2)] ∧ Hold σ4 db 5 (bytesD (packA x L).2.2.1) ∧ (∀ r ∈ tOf db, σ.n ≤ r) := fun h σ4 y hy hx => by
    rw [h]
    exact ⟨hx, _, hy, Hold.nil _ _, by simp [tOf]⟩
  refine ACalls.code hT Try.func32 rfl ?_
  simp only [Try.ntmps32, List.length_cons, List.length_nil, Nat.reduceSub, Nat.reduceAdd, List.replicate, List.cons_append, List.nil_append]
  by_cases h16 : L.length ≤ 16
  · have dc16 : decide (16 < (L.length : Int)) = false := decide_eq_false (by omega)
    repeat ((fail_if_success (with_reducible refine AW.at1 (id := 4) ?_)); (fail_if_success (with_reducible refine AW.at2 (id := 4) ?_)); first | (with_reducible first | refine AW.seq ?_ | refine AW.block ?_ | refine AW.skip ?_ | refine AW.ret ?_ | refine AW.exit ?_ | refine AW.reg hT ?_) | ((with_reducible refine AW.cond_true ?_ ?_); · rfl) | ((with_reducible refine AW.cond_false ?_ ?_); · rfl) | simp (maxSteps := 3000000) (maxDischargeDepth := 12) only [seval,push_cast,appendX,Try.results32,itC,del,dc16])
    refine AW.name (fun σ1 hσ1 => ?_)
    have gtb1 : σ1.get σ.n = some (ItO x (.imm (L.map eI))) := by subst hσ1; simp (maxSteps := 3000000) (maxDischargeDepth := 12) only [push_cast, appendX, Nat.reduceAdd, Nat.reduceEqDiff, Nat.reduceLT, Nat.reduceLeDiff, reduceIte, reduceCtorEq, ItO, itC, dc16]
    have gto1 : σ1.get (σ.n + 1) = some ⟨[[.sc (.int .i64 0), .sc (.int .i64 0), .sc (.slice none 0 0)]], 81, true⟩ := by subst hσ1; simp (maxSteps := 3000000) (maxDischargeDepth := 12) only [push_cast, appendX, Nat.reduceAdd, Nat.reduceEqDiff, Nat.reduceLT, Nat.reduceLeDiff, reduceIte, reduceCtorEq, dc16, gtb1, Heap.lt gtb1]
    have gtq1 : σ1.get (σ.n + 2) = some (ItO x (.imm (L.map eI))) := by subst hσ1; simp (maxSteps := 3000000) (maxDischargeDepth := 12) only [push_cast, appendX, Nat.reduceAdd, Nat.reduceEqDiff, Nat.reduceLT, Nat.reduceLeDiff, reduceIte, reduceCtorEq, ItO, itC, dc16, gtb1, Heap.lt gtb1, gto1, Heap.lt gto1]
    have x01 : Ext [] σ σ1 := by subst hσ1; repeat (first | exact Ext.refl _ _ | assumption | refine Ext.push ?_ _ | ((refine Ext.set ?_ ?_ _); rotate_left; · (simp (maxSteps := 3000000) (maxDischargeDepth := 12) only [push_cast, appendX, Nat.reduceAdd, Nat.reduceEqDiff, Nat.reduceLT, Nat.reduceLeDiff, reduceIte, reduceCtorEq, dc16, gtb1, Heap.lt gtb1, gto1, Heap.lt gto1, gtq1, Heap.lt gtq1])) | ((refine Ext.then1 (by assumption) ?_ ?_); rotate_left; · (intro p hp _; first | assumption | exact List.mem_cons_of_mem _ hp | (cases hp; done) | (simp at hp; subst hp; simp))))
    have hn1 : σ.n + 3 = σ1.n := by subst hσ1; simp
    clear hσ1
    obtain ⟨d, σ2, dnapp, hh2, xt2, hd2⟩ := Hold.append0 (T := T) (σ := σ1) (d := .sc (.slice none 0 0)) (ty := 39) (x := .imm (L.map eI)) (xs := L.map eI) (Hold.nil σ1 3) rfl rfl (by decide) rfl (by simp [eI]) (by simp; omega)
    have xt2' : Ext [] σ1 σ2 := xt2
    have gtb2 := xt2'.get gtb1 (by simp)
    have gto2 := xt2'.get gto1 (by simp)
    have gtq2 := xt2'.get gtq1 (by simp)
    have dncl2 := hh2.cells
    have dnlf2 := hh2.leaf
    rw [List.nil_append] at hh2
    repeat (first | (with_reducible first | refine AW.seq ?_ | refine AW.block ?_ | refine AW.skip ?_ | refine AW.ret ?_ | refine AW.exit ?_ | refine AW.reg hT ?_) | ((with_reducible refine AW.cond_true ?_ ?_); · rfl) | ((with_reducible refine AW.cond_false ?_ ?_); · rfl) | simp (maxSteps := 3000000) (maxDischargeDepth := 12) only [seval,push_cast,appendX,Try.results32,ItO,itC,dc16,gtb1,Heap.lt gtb1,gto1,Heap.lt gto1,gtq1,Heap.lt gtq1,↓dnapp,xt2.2,xt2.ltT,xt2.leT,gtb2,Heap.lt gtb2,gto2,Heap.lt gto2,gtq2,Heap.lt gtq2,↓dncl2,↓dnlf2])
    refine AOpsL.rule hT rfl (AOp.makeIface (e := 121) rfl rfl (by kernel_rfl) ?_)
    repeat ((fail_if_success (with_reducible refine AW.at1 (id := 7) ?_)); (fail_if_success (with_reducible refine AW.at2 (id := 7) ?_)); first | (with_reducible first | refine AW.seq ?_ | refine AW.block ?_ | refine AW.skip ?_ | refine AW.ret ?_ | refine AW.exit ?_ | refine AW.reg hT ?_) | ((with_reducible refine AW.cond_true ?_ ?_); · rfl) | ((with_reducible refine AW.cond_false ?_ ?_); · rfl) | simp (maxSteps := 3000000) (maxDischargeDepth := 12) only [seval,push_cast,appendX,Try.results32,dc16,gtb1,Heap.lt gtb1,gto1,Heap.lt gto1,gtq1,Heap.lt gtq1,↓dnapp,xt2.2,xt2.ltT,xt2.leT,gtb2,Heap.lt gtb2,gto2,Heap.lt gto2,gtq2,Heap.lt gtq2,↓dncl2,↓dnlf2])
    refine AW.name (fun σ3 hσ3 => ?_)
    have hn12 := xt2'.1
    have hlt2 := hh2.lt
    have hdn : ∀ q ∈ tOf d, σ1.n ≤ q := fun q hq => by
      rcases Nat.lt_or_ge q σ1.n with h | h
      · have := hd2 q h hq; simp [tOf] at this
      · exact h
    have hA3 : GonAt layF σ3 (σ2.n + 1) σ2.n [σ2.n] ⟨true, ([], true)⟩ := by
      subst hσ3
      exact ⟨by simp (maxSteps := 3000000) (maxDischargeDepth := 12) only [push_cast, appendX, Nat.reduceAdd, Nat.reduceEqDiff, Nat.reduceLT, Nat.reduceLeDiff, reduceIte, reduceCtorEq, GonO, layF, dc16, gtb1, Heap.lt gtb1, gto1, Heap.lt gto1, gtq1, Heap.lt gtq1, ↓dnapp, xt2.2, xt2.ltT, xt2.leT, gtb2, Heap.lt gtb2, gto2, Heap.lt gto2, gtq2, Heap.lt gtq2, ↓dncl2, ↓dnlf2], by simp, .sc (.slice none 0 0), rfl, by simp [tOf], Hold.nil _ _, by simp (maxSteps := 3000000) (maxDischargeDepth := 12) only [push_cast, appendX, Nat.reduceAdd, Nat.reduceEqDiff, Nat.reduceLT, Nat.reduceLeDiff, reduceIte, reduceCtorEq, LayO, dc16, gtb1, Heap.lt gtb1, gto1, Heap.lt gto1, gtq1, Heap.lt gtq1, ↓dnapp, xt2.2, xt2.ltT, xt2.leT, gtb2, Heap.lt gtb2, gto2, Heap.lt gto2, gtq2, Heap.lt gtq2, ↓dncl2, ↓dnlf2]⟩
    have gtq3 : σ3.get (σ.n + 2) = some (ItO x d) := by subst hσ3; simp (maxSteps := 3000000) (maxDischargeDepth := 12) only [push_cast, appendX, Nat.reduceAdd, Nat.reduceEqDiff, Nat.reduceLT, Nat.reduceLeDiff, reduceIte, reduceCtorEq, ItO, itC, dc16, gtb1, Heap.lt gtb1, gto1, Heap.lt gto1, gtq1, Heap.lt gtq1, ↓dnapp, xt2.2, xt2.ltT, xt2.leT, gtb2, Heap.lt gtb2, gto2, Heap.lt gto2, gtq2, Heap.lt gtq2, ↓dncl2, ↓dnlf2]
    have gtb3 : σ3.get σ.n = some (ItO x (.imm (L.map eI))) := by subst hσ3; simp (maxSteps := 3000000) (maxDischargeDepth := 12) only [push_cast, appendX, Nat.reduceAdd, Nat.reduceEqDiff, Nat.reduceLT, Nat.reduceLeDiff, reduceIte, reduceCtorEq, ItO, itC, dc16, gtb1, Heap.lt gtb1, gto1, Heap.lt gto1, gtq1, Heap.lt gtq1, ↓dnapp, xt2.2, xt2.ltT, xt2.leT, gtb2, Heap.lt gtb2, gto2, Heap.lt gto2, gtq2, Heap.lt gtq2, ↓dncl2, ↓dnlf2, gtq3, Heap.lt gtq3]
    have gto3 : σ3.get (σ.n + 1) = some ⟨[[.sc (.int .i64 0), .sc (.int .i64 0), .sc (.slice none 0 0)]], 81, true⟩ := by subst hσ3; simp (maxSteps := 3000000) (maxDischargeDepth := 12) only [push_cast, appendX, Nat.reduceAdd, Nat.reduceEqDiff, Nat.reduceLT, Nat.reduceLeDiff, reduceIte, reduceCtorEq, dc16, gtb1, Heap.lt gtb1, gto1, Heap.lt gto1, gtq1, Heap.lt gtq1, ↓dnapp, xt2.2, xt2.ltT, xt2.leT, gtb2, Heap.lt gtb2, gto2, Heap.lt gto2, gtq2, Heap.lt gtq2, ↓dncl2, ↓dnlf2, gtq3, Heap.lt gtq3, gtb3, Heap.lt gtb3]
    have x23 : Ext [σ.n + 2] σ2 σ3 := by subst hσ3; repeat (first | exact Ext.refl _ _ | assumption | refine Ext.push ?_ _ | ((refine Ext.set ?_ ?_ _); rotate_left; · (simp (maxSteps := 3000000) (maxDischargeDepth := 12) only [push_cast, appendX, Nat.reduceAdd, Nat.reduceEqDiff, Nat.reduceLT, Nat.reduceLeDiff, reduceIte, reduceCtorEq, dc16, gtb1, Heap.lt gtb1, gto1, Heap.lt gto1, gtq1, Heap.lt gtq1, ↓dnapp, xt2.2, xt2.ltT, xt2.leT, gtb2, Heap.lt gtb2, gto2, Heap.lt gto2, gtq2, Heap.lt gtq2, ↓dncl2, ↓dnlf2, gtq3, Heap.lt gtq3, gtb3, Heap.lt gtb3, gto3, Heap.lt gto3])) | ((refine Ext.then1 (by assumption) ?_ ?_); rotate_left; · (intro p hp _; first | assumption | exact List.mem_cons_of_mem _ hp | (cases hp; done) | (simp at hp; subst hp; simp))))
    have hn3 : σ2.n + 2 = σ3.n := by subst hσ3; simp
    clear hσ3
    have hh3 := hh2.frame x23 (fun q hq hm => by have := hdn q hq; simp at hm; omega)
    have x03 : Ext [] σ σ3 := (x01.then xt2' (by simp)).then x23 (fun q hq hl => by simp at hq; omega)
    have hthr := through_lay σ3 hA3 ⟨gtq3, hh3⟩ hw h16
    have hoct := layI_octs x L
    have hpk : packA x L = if L.length ≤ 16 ∧ (layI x L).ok = true ∧ (layI x L).s.2 = true ∧ (unpA x.cls (kindI x.cls) (layI x L).s.1).2.2 = 0 ∧ x = (unpA x.cls (kindI x.cls) (layI x L).s.1).1 ∧ L = (unpA x.cls (kindI x.cls) (layI x L).s.1).2.1 then (x.cls, kindI x.cls, (layI x L).s.1, 0) else (0, 0, [], 2) := rfl
    revert hthr hoct hpk
    generalize layI x L = Z
    obtain ⟨ok, b, lok⟩ := Z
    intro hthr hoct hpk
    simp only at hthr hoct hpk
    repeat (first | (with_reducible first | refine AW.seq ?_ | refine AW.block ?_ | refine AW.skip ?_ | refine AW.ret ?_ | refine AW.exit ?_ | refine AW.reg hT ?_) | ((with_reducible refine AW.cond_true ?_ ?_); · rfl) | ((with_reducible refine AW.cond_false ?_ ?_); · rfl) | simp (maxSteps := 3000000) (maxDischargeDepth := 12) only [seval,push_cast,appendX,Try.results32,dc16,gtb1,Heap.lt gtb1,gto1,Heap.lt gto1,gtq1,Heap.lt gtq1,↓dnapp,xt2.2,xt2.ltT,xt2.leT,gtb2,Heap.lt gtb2,gto2,Heap.lt gto2,gtq2,Heap.lt gtq2,↓dncl2,↓dnlf2,gtq3,Heap.lt gtq3,gtb3,Heap.lt gtb3,gto3,Heap.lt gto3])
    refine AOpsL.call (first := []) (cap := []) hT rfl rfl rfl fn56 rfl (ACalls.mono (hthr) ?_)
    rintro y σ4 ⟨rfl, hlen, fp4, hA4, xt4, hn4⟩
    have gtg4 := hA4.1
    obtain ⟨d4, rfl, hpd4, hh4, gtp4⟩ := hA4.2.2
    have hd4 : ∀ q ∈ tOf d4, σ3.n ≤ q := fun q hq => by
      rcases Nat.lt_or_ge q σ3.n with h | h
      · have h1 := hn4 q h (List.mem_cons_of_mem _ hq)
        simp at h1; subst h1; exact absurd hq hpd4
      · exact h
    have hnot : ∀ q, q < σ.n + 2 → q ∉ ((σ.n + 2) :: tOf d) ++ ((σ2.n + 1) :: [σ2.n]) := fun q hq hm => by
      rcases List.mem_append.1 hm with h | h
      · rcases List.mem_cons.1 h with h | h
        · omega
        · have := hdn q h; omega
      · simp at h; omega
    have gtb4 := xt4.get gtb3 (hnot _ (by omega))
    have gto4 := xt4.get gto3 (hnot _ (by omega))
    have xt04 : Ext [] σ σ4 := x03.then xt4 (fun q hq hl => absurd hq (hnot q (by omega)))
    have hn34 := xt4.1
    have dncl4 := hh4.cells
    have dnlf4 := hh4.leaf
    have hwc := hw.1
    clear hthr xt4 hn4 x23 x03 hh3 hA3 hA4
    cases ok with
    | false =>
      repeat (first | (with_reducible first | refine AW.seq ?_ | refine AW.block ?_ | refine AW.skip ?_ | refine AW.ret ?_ | refine AW.exit ?_ | refine AW.reg hT ?_) | ((with_reducible show AW _ (.region 8 _ _) _ _ _); (with_reducible refine AW.drawn (id := 8) hT [0,1,2,3,4,5,6,7,8,9] [[],[0],[],[],[3],[3,4],[3,4,5],[0,1,2,3,4,5,6],[],[0,1,2,3,4,5,6,7,8]] mix (by kernel_rfl) ?_)) | ((with_reducible show DLeft _ _ _ _ (_ :: _) _ _ _ _); (with_reducible apply DLeft.step hT); (case hoi => ((simp only [List.getElem?_toArray,List.getElem?_cons_zero,List.getElem?_cons_succ]); with_reducible rfl)); (case hg => rfl); (case hk => rfl); (case hr => ((try simp (maxSteps := 3000000) (maxDischargeDepth := 12) only [seval,push_cast,appendX,Try.results32,GonO,LayO,ItO,itC,dc16,gtb1,Heap.lt gtb1,gto1,Heap.lt gto1,gtq1,Heap.lt gtq1,↓dnapp,xt2.2,xt2.ltT,xt2.leT,gtb2,Heap.lt gtb2,gto2,Heap.lt gto2,gtq2,Heap.lt gtq2,↓dncl2,↓dnlf2,gtq3,Heap.lt gtq3,gtb3,Heap.lt gtb3,gto3,Heap.lt gto3,gtg4,Heap.lt gtg4,gtp4,Heap.lt gtp4,gtb4,Heap.lt gtb4,gto4,Heap.lt gto4,xt04.2,xt04.ltT,xt04.leT,↓dncl4,↓dnlf4]); with_reducible rfl))) | ((with_reducible refine AW.cond_true ?_ ?_); · rfl) | ((with_reducible refine AW.cond_false ?_ ?_); · rfl) | simp (maxSteps := 3000000) (maxDischargeDepth := 12) only [seval,push_cast,appendX,Try.results32,GonO,LayO,ItO,itC,dc16,gtb1,Heap.lt gtb1,gto1,Heap.lt gto1,gtq1,Heap.lt gtq1,↓dnapp,xt2.2,xt2.ltT,xt2.leT,gtb2,Heap.lt gtb2,gto2,Heap.lt gto2,gtq2,Heap.lt gtq2,↓dncl2,↓dnlf2,gtq3,Heap.lt gtq3,gtb3,Heap.lt gtb3,gto3,Heap.lt gto3,gtg4,Heap.lt gtg4,gtp4,Heap.lt gtp4,gtb4,Heap.lt gtb4,gto4,Heap.lt gto4,xt04.2,xt04.ltT,xt04.leT,↓dncl4,↓dnlf4])
      exact hno (by rw [hpk, if_neg (by simp)]) _ _ rfl (by repeat (first | exact Ext.refl _ _ | assumption | refine Ext.push ?_ _ | ((refine Ext.set ?_ ?_ _); rotate_left; · (simp (maxSteps := 3000000) (maxDischargeDepth := 12) only [push_cast, appendX, Nat.reduceAdd, Nat.reduceEqDiff, Nat.reduceLT, Nat.reduceLeDiff, reduceIte, reduceCtorEq, dc16, gtb1, Heap.lt gtb1, gto1, Heap.lt gto1, gtq1, Heap.lt gtq1, ↓dnapp, xt2.2, xt2.ltT, xt2.leT, gtb2, Heap.lt gtb2, gto2, Heap.lt gto2, gtq2, Heap.lt gtq2, ↓dncl2, ↓dnlf2, gtq3, Heap.lt gtq3, gtb3, Heap.lt gtb3, gto3, Heap.lt gto3, gtg4, Heap.lt gtg4, gtp4, Heap.lt gtp4, gtb4, Heap.lt gtb4, gto4, Heap.lt gto4, xt04.2, xt04.ltT, xt04.leT, ↓dncl4, ↓dnlf4])) | ((refine Ext.then1 (by assumption) ?_ ?_); rotate_left; · (intro p hp _; first | assumption | exact List.mem_cons_of_mem _ hp | (cases hp; done) | (simp at hp; subst hp; simp)))))
    | true =>
      cases lok with
      | false =>
        repeat (first | (with_reducible first | refine AW.seq ?_ | refine AW.block ?_ | refine AW.skip ?_ | refine AW.ret ?_ | refine AW.exit ?_ | refine AW.reg hT ?_) | ((with_reducible show AW _ (.region 8 _ _) _ _ _); (with_reducible refine AW.drawn (id := 8) hT [0,1,2,3,4,5,6,7,8,9] [[],[0],[],[],[3],[3,4],[3,4,5],[0,1,2,3,4,5,6],[],[0,1,2,3,4,5,6,7,8]] mix (by kernel_rfl) ?_)) | ((with_reducible show DLeft _ _ _ _ (_ :: _) _ _ _ _); (with_reducible apply DLeft.step hT); (case hoi => ((simp only [List.getElem?_toArray,List.getElem?_cons_zero,List.getElem?_cons_succ]); with_reducible rfl)); (case hg => rfl); (case hk => rfl); (case hr => ((try simp (maxSteps := 3000000) (maxDischargeDepth := 12) only [seval,push_cast,appendX,Try.results32,GonO,LayO,ItO,itC,dc16,gtb1,Heap.lt gtb1,gto1,Heap.lt gto1,gtq1,Heap.lt gtq1,↓dnapp,xt2.2,xt2.ltT,xt2.leT,gtb2,Heap.lt gtb2,gto2,Heap.lt gto2,gtq2,Heap.lt gtq2,↓dncl2,↓dnlf2,gtq3,Heap.lt gtq3,gtb3,Heap.lt gtb3,gto3,Heap.lt gto3,gtg4,Heap.lt gtg4,gtp4,Heap.lt gtp4,gtb4,Heap.lt gtb4,gto4,Heap.lt gto4,xt04.2,xt04.ltT,xt04.leT,↓dncl4,↓dnlf4]); with_reducible rfl))) | ((with_reducible refine AW.cond_true ?_ ?_); · rfl) | ((with_reducible refine AW.cond_false ?_ ?_); · rfl) | simp (maxSteps := 3000000) (maxDischargeDepth := 12) only [seval,push_cast,appendX,Try.results32,GonO,LayO,ItO,itC,dc16,gtb1,Heap.lt gtb1,gto1,Heap.lt gto1,gtq1,Heap.lt gtq1,↓dnapp,xt2.2,xt2.ltT,xt2.leT,gtb2,Heap.lt gtb2,gto2,Heap.lt gto2,gtq2,Heap.lt gtq2,↓dncl2,↓dnlf2,gtq3,Heap.lt gtq3,gtb3,Heap.lt gtb3,gto3,Heap.lt gto3,gtg4,Heap.lt gtg4,gtp4,Heap.lt gtp4,gtb4,Heap.lt gtb4,gto4,Heap.lt gto4,xt04.2,xt04.ltT,xt04.leT,↓dncl4,↓dnlf4])
        exact hno (by rw [hpk, if_neg (by simp)]) _ _ rfl (by repeat (first | exact Ext.refl _ _ | assumption | refine Ext.push ?_ _ | ((refine Ext.set ?_ ?_ _); rotate_left; · (simp (maxSteps := 3000000) (maxDischargeDepth := 12) only [push_cast, appendX, Nat.reduceAdd, Nat.reduceEqDiff, Nat.reduceLT, Nat.reduceLeDiff, reduceIte, reduceCtorEq, dc16, gtb1, Heap.lt gtb1, gto1, Heap.lt gto1, gtq1, Heap.lt gtq1, ↓dnapp, xt2.2, xt2.ltT, xt2.leT, gtb2, Heap.lt gtb2, gto2, Heap.lt gto2, gtq2, Heap.lt gtq2, ↓dncl2, ↓dnlf2, gtq3, Heap.lt gtq3, gtb3, Heap.lt gtb3, gto3, Heap.lt gto3, gtg4, Heap.lt gtg4, gtp4, Heap.lt gtp4, gtb4, Heap.lt gtb4, gto4, Heap.lt gto4, xt04.2, xt04.ltT, xt04.leT, ↓dncl4, ↓dnlf4])) | ((refine Ext.then1 (by assumption) ?_ ?_); rotate_left; · (intro p hp _; first | assumption | exact List.mem_cons_of_mem _ hp | (cases hp; done) | (simp at hp; subst hp; simp)))))
      | true =>
        repeat (first | (with_reducible first | refine AW.seq ?_ | refine AW.block ?_ | refine AW.skip ?_ | refine AW.ret ?_ | refine AW.exit ?_ | refine AW.reg hT ?_) | ((with_reducible show AW _ (.region 8 _ _) _ _ _); (with_reducible refine AW.drawn (id := 8) hT [0,1,2,3,4,5,6,7,8,9] [[],[0],[],[],[3],[3,4],[3,4,5],[0,1,2,3,4,5,6],[],[0,1,2,3,4,5,6,7,8]] mix (by kernel_rfl) ?_)) | ((with_reducible show DLeft _ _ _ _ (_ :: _) _ _ _ _); (with_reducible apply DLeft.step hT); (case hoi => ((simp only [List.getElem?_toArray,List.getElem?_cons_zero,List.getElem?_cons_succ]); with_reducible rfl)); (case hg => rfl); (case hk => rfl); (case hr => ((try simp (maxSteps := 3000000) (maxDischargeDepth := 12) only [seval,push_cast,appendX,Try.results32,GonO,LayO,ItO,itC,dc16,gtb1,Heap.lt gtb1,gto1,Heap.lt gto1,gtq1,Heap.lt gtq1,↓dnapp,xt2.2,xt2.ltT,xt2.leT,gtb2,Heap.lt gtb2,gto2,Heap.lt gto2,gtq2,Heap.lt gtq2,↓dncl2,↓dnlf2,gtq3,Heap.lt gtq3,gtb3,Heap.lt gtb3,gto3,Heap.lt gto3,gtg4,Heap.lt gtg4,gtp4,Heap.lt gtp4,gtb4,Heap.lt gtb4,gto4,Heap.lt gto4,xt04.2,xt04.ltT,xt04.leT,↓dncl4,↓dnlf4]); with_reducible rfl))) | ((with_reducible refine AW.cond_true ?_ ?_); · rfl) | ((with_reducible refine AW.cond_false ?_ ?_); · rfl) | simp (maxSteps := 3000000) (maxDischargeDepth := 12) only [seval,push_cast,appendX,Try.results32,GonO,LayO,ItO,itC,dc16,gtb1,Heap.lt gtb1,gto1,Heap.lt gto1,gtq1,Heap.lt gtq1,↓dnapp,xt2.2,xt2.ltT,xt2.leT,gtb2,Heap.lt gtb2,gto2,Heap.lt gto2,gtq2,Heap.lt gtq2,↓dncl2,↓dnlf2,gtq3,Heap.lt gtq3,gtb3,Heap.lt gtb3,gto3,Heap.lt gto3,gtg4,Heap.lt gtg4,gtp4,Heap.lt gtp4,gtb4,Heap.lt gtb4,gto4,Heap.lt gto4,xt04.2,xt04.ltT,xt04.leT,↓dncl4,↓dnlf4])
        refine AOpsL.call (first := []) (cap := []) hT rfl rfl rfl fn27 rfl (ACalls.mono (unpack_ok _ dncl4 dnlf4 (hh4.frame (X := []) (by repeat (first | exact Ext.refl _ _ | assumption | refine Ext.push ?_ _ | ((refine Ext.set ?_ ?_ _); rotate_left; · (simp (maxSteps := 3000000) (maxDischargeDepth := 12) only [push_cast, appendX, Nat.reduceAdd, Nat.reduceEqDiff, Nat.reduceLT, Nat.reduceLeDiff, reduceIte, reduceCtorEq, dc16, gtb1, Heap.lt gtb1, gto1, Heap.lt gto1, gtq1, Heap.lt gtq1, ↓dnapp, xt2.2, xt2.ltT, xt2.leT, gtb2, Heap.lt gtb2, gto2, Heap.lt gto2, gtq2, Heap.lt gtq2, ↓dncl2, ↓dnlf2, gtq3, Heap.lt gtq3, gtb3, Heap.lt gtb3, gto3, Heap.lt gto3, gtg4, Heap.lt gtg4, gtp4, Heap.lt gtp4, gtb4, Heap.lt gtb4, gto4, Heap.lt gto4, xt04.2, xt04.ltT, xt04.leT, ↓dncl4, ↓dnlf4])) | ((refine Ext.then1 (by assumption) ?_ ?_); rotate_left; · (intro p hp _; first | assumption | exact List.mem_cons_of_mem _ hp | (cases hp; done) | (simp at hp; subst hp; simp))))) (by simp)).src hoct hlen hwc) ?_)
        rintro y σ5 ⟨xt5, dl, rfl, hh5, hd5⟩
        have xt45 : Ext [] σ4 σ5 := by
          refine Ext.trans ?_ xt5
          repeat (first | exact Ext.refl _ _ | assumption | refine Ext.push ?_ _ | ((refine Ext.set ?_ ?_ _); rotate_left; · (simp (maxSteps := 3000000) (maxDischargeDepth := 12) only [push_cast, appendX, Nat.reduceAdd, Nat.reduceEqDiff, Nat.reduceLT, Nat.reduceLeDiff, reduceIte, reduceCtorEq, dc16, gtb1, Heap.lt gtb1, gto1, Heap.lt gto1, gtq1, Heap.lt gtq1, ↓dnapp, xt2.2, xt2.ltT, xt2.leT, gtb2, Heap.lt gtb2, gto2, Heap.lt gto2, gtq2, Heap.lt gtq2, ↓dncl2, ↓dnlf2, gtq3, Heap.lt gtq3, gtb3, Heap.lt gtb3, gto3, Heap.lt gto3, gtg4, Heap.lt gtg4, gtp4, Heap.lt gtp4, gtb4, Heap.lt gtb4, gto4, Heap.lt gto4, xt04.2, xt04.ltT, xt04.leT, ↓dncl4, ↓dnlf4, xt5.2, xt5.ltT, xt5.leT])) | ((refine Ext.then1 (by assumption) ?_ ?_); rotate_left; · (intro p hp _; first | assumption | exact List.mem_cons_of_mem _ hp | (cases hp; done) | (simp at hp; subst hp; simp))))
        revert hpk hh5
        generalize unpA x.cls (kindI x.cls) b = U
        obtain ⟨w, M, e⟩ := U
        intro hpk hh5
        simp only at hh5 hpk
        have dncl5 := hh5.cells
        have dnlf5 := hh5.leaf
        have gto5 := xt45.get gto4 (by simp)
        have gtb5 := xt45.get gtb4 (by simp)
        have gtr5 : σ5.get σ4.n = some ⟨[[.sc (.int .i64 x.cls), .sc (.int .i64 (kindI x.cls)), d4]], 81, true⟩ := xt5.get (by simp (maxSteps := 3000000) (maxDischargeDepth := 12) only [push_cast, appendX, Nat.reduceAdd, Nat.reduceEqDiff, Nat.reduceLT, Nat.reduceLeDiff, reduceIte, reduceCtorEq, dc16, gtb1, Heap.lt gtb1, gto1, Heap.lt gto1, gtq1, Heap.lt gtq1, ↓dnapp, xt2.2, xt2.ltT, xt2.leT, gtb2, Heap.lt gtb2, gto2, Heap.lt gto2, gtq2, Heap.lt gtq2, ↓dncl2, ↓dnlf2, gtq3, Heap.lt gtq3, gtb3, Heap.lt gtb3, gto3, Heap.lt gto3, gtg4, Heap.lt gtg4, gtp4, Heap.lt gtp4, gtb4, Heap.lt gtb4, gto4, Heap.lt gto4, xt04.2, xt04.ltT, xt04.leT, ↓dncl4, ↓dnlf4, xt5.2, xt5.ltT, xt5.leT, xt45.2, xt45.ltT, xt45.leT, ↓dncl5, ↓dnlf5, gto5, Heap.lt gto5, gtb5, Heap.lt gtb5]) (by simp)
        have xt05 := xt04.trans xt45
        by_cases he : e = 0
        · have dce : (e == 0) = true := by simpa using he
          repeat (first | (with_reducible first | refine AW.seq ?_ | refine AW.block ?_ | refine AW.skip ?_ | refine AW.ret ?_ | refine AW.exit ?_ | refine AW.reg hT ?_) | ((with_reducible refine AW.cond_true ?_ ?_); · rfl) | ((with_reducible refine AW.cond_false ?_ ?_); · rfl) | simp (maxSteps := 3000000) (maxDischargeDepth := 12) only [seval,push_cast,appendX,Try.results32,GonO,LayO,ItO,itC,dc16,gtb1,Heap.lt gtb1,gto1,Heap.lt gto1,gtq1,Heap.lt gtq1,↓dnapp,xt2.2,xt2.ltT,xt2.leT,gtb2,Heap.lt gtb2,gto2,Heap.lt gto2,gtq2,Heap.lt gtq2,↓dncl2,↓dnlf2,gtq3,Heap.lt gtq3,gtb3,Heap.lt gtb3,gto3,Heap.lt gto3,gtg4,Heap.lt gtg4,gtp4,Heap.lt gtp4,gtb4,Heap.lt gtb4,gto4,Heap.lt gto4,xt04.2,xt04.ltT,xt04.leT,↓dncl4,↓dnlf4,xt5.2,xt5.ltT,xt5.leT,xt45.2,xt45.ltT,xt45.leT,↓dncl5,↓dnlf5,gto5,Heap.lt gto5,gtb5,Heap.lt gtb5,gtr5,Heap.lt gtr5,xt05.2,xt05.ltT,xt05.leT,dce])
          have hln := xt05.1
          have hln5 := xt45.1
          have hdl : ∀ r ∈ tOf dl, σ4.n + 1 ≤ r := fun r hr => by have := hd5 r hr; simp at this; omega
          have xt45' : Ext (tOf dl) σ4 σ5 := xt45.mono (by simp)
          have hgo : σ.n + 1 < σ4.n := Heap.lt gto4
          refine AOpsL.call (first := []) (cap := []) hT rfl rfl rfl fn59 rfl (ACalls.mono (same_ok _ (L := L) (hh5.frame (X := []) (by repeat (first | exact Ext.refl _ _ | assumption | refine Ext.push ?_ _ | ((refine Ext.set ?_ ?_ _); rotate_left; · (simp (maxSteps := 3000000) (maxDischargeDepth := 12) only [push_cast, appendX, Nat.reduceAdd, Nat.reduceEqDiff, Nat.reduceLT, Nat.reduceLeDiff, reduceIte, reduceCtorEq, dc16, gtb1, Heap.lt gtb1, gto1, Heap.lt gto1, gtq1, Heap.lt gtq1, ↓dnapp, xt2.2, xt2.ltT, xt2.leT, gtb2, Heap.lt gtb2, gto2, Heap.lt gto2, gtq2, Heap.lt gtq2, ↓dncl2, ↓dnlf2, gtq3, Heap.lt gtq3, gtb3, Heap.lt gtb3, gto3, Heap.lt gto3, gtg4, Heap.lt gtg4, gtp4, Heap.lt gtp4, gtb4, Heap.lt gtb4, gto4, Heap.lt gto4, xt04.2, xt04.ltT, xt04.leT, ↓dncl4, ↓dnlf4, xt5.2, xt5.ltT, xt5.leT, xt45.2, xt45.ltT, xt45.leT, ↓dncl5, ↓dnlf5, gto5, Heap.lt gto5, gtb5, Heap.lt gtb5, gtr5, Heap.lt gtr5, xt05.2, xt05.ltT, xt05.leT, dce])) | ((refine Ext.then1 (by assumption) ?_ ?_); rotate_left; · (intro p hp _; first | assumption | exact List.mem_cons_of_mem _ hp | (cases hp; done) | (simp at hp; subst hp; simp))))) (by simp)) hL) ?_)
          rintro y σ6 ⟨xt6, bb, rfl, hb⟩
          have gto6 : σ6.get (σ.n + 1) = some ⟨[[.sc (.int .i64 0), .sc (.int .i64 0), .sc (.slice none 0 0)]], 81, true⟩ := xt6.get (by simp (maxSteps := 3000000) (maxDischargeDepth := 12) only [push_cast, appendX, Nat.reduceAdd, Nat.reduceEqDiff, Nat.reduceLT, Nat.reduceLeDiff, reduceIte, reduceCtorEq, dc16, gtb1, Heap.lt gtb1, gto1, Heap.lt gto1, gtq1, Heap.lt gtq1, ↓dnapp, xt2.2, xt2.ltT, xt2.leT, gtb2, Heap.lt gtb2, gto2, Heap.lt gto2, gtq2, Heap.lt gtq2, ↓dncl2, ↓dnlf2, gtq3, Heap.lt gtq3, gtb3, Heap.lt gtb3, gto3, Heap.lt gto3, gtg4, Heap.lt gtg4, gtp4, Heap.lt gtp4, gtb4, Heap.lt gtb4, gto4, Heap.lt gto4, xt04.2, xt04.ltT, xt04.leT, ↓dncl4, ↓dnlf4, xt5.2, xt5.ltT, xt5.leT, xt45.2, xt45.ltT, xt45.leT, ↓dncl5, ↓dnlf5, gto5, Heap.lt gto5, gtb5, Heap.lt gtb5, gtr5, Heap.lt gtr5, xt05.2, xt05.ltT, xt05.leT, dce, xt6.2, xt6.ltT, xt6.leT]) (fun hm => by have := hdl _ hm; omega)
          have gtr6 : σ6.get σ4.n = some ⟨[[.sc (.int .i64 x.cls), .sc (.int .i64 (kindI x.cls)), d4]], 81, true⟩ := xt6.get (by simp (maxSteps := 3000000) (maxDischargeDepth := 12) only [push_cast, appendX, Nat.reduceAdd, Nat.reduceEqDiff, Nat.reduceLT, Nat.reduceLeDiff, reduceIte, reduceCtorEq, dc16, gtb1, Heap.lt gtb1, gto1, Heap.lt gto1, gtq1, Heap.lt gtq1, ↓dnapp, xt2.2, xt2.ltT, xt2.leT, gtb2, Heap.lt gtb2, gto2, Heap.lt gto2, gtq2, Heap.lt gtq2, ↓dncl2, ↓dnlf2, gtq3, Heap.lt gtq3, gtb3, Heap.lt gtb3, gto3, Heap.lt gto3, gtg4, Heap.lt gtg4, gtp4, Heap.lt gtp4, gtb4, Heap.lt gtb4, gto4, Heap.lt gto4, xt04.2, xt04.ltT, xt04.leT, ↓dncl4, ↓dnlf4, xt5.2, xt5.ltT, xt5.leT, xt45.2, xt45.ltT, xt45.leT, ↓dncl5, ↓dnlf5, gto5, Heap.lt gto5, gtb5, Heap.lt gtb5, gtr5, Heap.lt gtr5, xt05.2, xt05.ltT, xt05.leT, dce, xt6.2, xt6.ltT, xt6.leT, gto6, Heap.lt gto6]) (fun hm => by have := hdl _ hm; omega)
          have x46 : Ext (tOf dl) σ4 σ6 := by
            refine Ext.trans ?_ xt6
            repeat (first | exact Ext.refl _ _ | assumption | refine Ext.push ?_ _ | ((refine Ext.set ?_ ?_ _); rotate_left; · (simp (maxSteps := 3000000) (maxDischargeDepth := 12) only [push_cast, appendX, Nat.reduceAdd, Nat.reduceEqDiff, Nat.reduceLT, Nat.reduceLeDiff, reduceIte, reduceCtorEq, dc16, gtb1, Heap.lt gtb1, gto1, Heap.lt gto1, gtq1, Heap.lt gtq1, ↓dnapp, xt2.2, xt2.ltT, xt2.leT, gtb2, Heap.lt gtb2, gto2, Heap.lt gto2, gtq2, Heap.lt gtq2, ↓dncl2, ↓dnlf2, gtq3, Heap.lt gtq3, gtb3, Heap.lt gtb3, gto3, Heap.lt gto3, gtg4, Heap.lt gtg4, gtp4, Heap.lt gtp4, gtb4, Heap.lt gtb4, gto4, Heap.lt gto4, xt04.2, xt04.ltT, xt04.leT, ↓dncl4, ↓dnlf4, xt5.2, xt5.ltT, xt5.leT, xt45.2, xt45.ltT, xt45.leT, ↓dncl5, ↓dnlf5, gto5, Heap.lt gto5, gtb5, Heap.lt gtb5, gtr5, Heap.lt gtr5, xt05.2, xt05.ltT, xt05.leT, dce, xt6.2, xt6.ltT, xt6.leT, gto6, Heap.lt gto6, gtr6, Heap.lt gtr6])) | ((refine Ext.then1 (by assumption) ?_ ?_); rotate_left; · (intro p hp _; first | assumption | exact List.mem_cons_of_mem _ hp | (cases hp; done) | (simp at hp; subst hp; simp))))
          have xt06 : Ext [] σ σ6 := xt04.then x46 (fun q hq hl => by have := hdl q hq; omega)
          have hh6 := hh4.frame x46 (fun q hq hm => by have := hdl q hm; have := hh4.lt q hq; omega)
          cases bb with
          | true =>
            have hb' := hb.1 rfl
            repeat (first | (with_reducible first | refine AW.seq ?_ | refine AW.block ?_ | refine AW.skip ?_ | refine AW.ret ?_ | refine AW.exit ?_ | refine AW.reg hT ?_) | ((with_reducible refine AW.cond_true ?_ ?_); · rfl) | ((with_reducible refine AW.cond_false ?_ ?_); · rfl) | simp (maxSteps := 3000000) (maxDischargeDepth := 12) only [seval,push_cast,appendX,Try.results32,GonO,LayO,ItO,itC,dc16,gtb1,Heap.lt gtb1,gto1,Heap.lt gto1,gtq1,Heap.lt gtq1,↓dnapp,xt2.2,xt2.ltT,xt2.leT,gtb2,Heap.lt gtb2,gto2,Heap.lt gto2,gtq2,Heap.lt gtq2,↓dncl2,↓dnlf2,gtq3,Heap.lt gtq3,gtb3,Heap.lt gtb3,gto3,Heap.lt gto3,gtg4,Heap.lt gtg4,gtp4,Heap.lt gtp4,gtb4,Heap.lt gtb4,gto4,Heap.lt gto4,xt04.2,xt04.ltT,xt04.leT,↓dncl4,↓dnlf4,xt5.2,xt5.ltT,xt5.leT,xt45.2,xt45.ltT,xt45.leT,↓dncl5,↓dnlf5,gto5,Heap.lt gto5,gtb5,Heap.lt gtb5,gtr5,Heap.lt gtr5,xt05.2,xt05.ltT,xt05.leT,dce,xt6.2,xt6.ltT,xt6.leT,gto6,Heap.lt gto6,gtr6,Heap.lt gtr6,xt06.2,xt06.ltT,xt06.leT])
            rw [hpk, if_pos ⟨h16, trivial, trivial, he, hb'.1, hb'.2⟩]
            refine ⟨by repeat (first | exact Ext.refl _ _ | assumption | refine Ext.push ?_ _ | ((refine Ext.set ?_ ?_ _); rotate_left; · (simp (maxSteps := 3000000) (maxDischargeDepth := 12) only [push_cast, appendX, Nat.reduceAdd, Nat.reduceEqDiff, Nat.reduceLT, Nat.reduceLeDiff, reduceIte, reduceCtorEq, dc16, gtb1, Heap.lt gtb1, gto1, Heap.lt gto1, gtq1, Heap.lt gtq1, ↓dnapp, xt2.2, xt2.ltT, xt2.leT, gtb2, Heap.lt gtb2, gto2, Heap.lt gto2, gtq2, Heap.lt gtq2, ↓dncl2, ↓dnlf2, gtq3, Heap.lt gtq3, gtb3, Heap.lt gtb3, gto3, Heap.lt gto3, gtg4, Heap.lt gtg4, gtp4, Heap.lt gtp4, gtb4, Heap.lt gtb4, gto4, Heap.lt gto4, xt04.2, xt04.ltT, xt04.leT, ↓dncl4, ↓dnlf4, xt5.2, xt5.ltT, xt5.leT, xt45.2, xt45.ltT, xt45.leT, ↓dncl5, ↓dnlf5, gto5, Heap.lt gto5, gtb5, Heap.lt gtb5, gtr5, Heap.lt gtr5, xt05.2, xt05.ltT, xt05.leT, dce, xt6.2, xt6.ltT, xt6.leT, gto6, Heap.lt gto6, gtr6, Heap.lt gtr6, xt06.2, xt06.ltT, xt06.leT])) | ((refine Ext.then1 (by assumption) ?_ ?_); rotate_left; · (intro p hp _; first | assumption | exact List.mem_cons_of_mem _ hp | (cases hp; done) | (simp at hp; subst hp; simp)))), d4, rfl, hh6.frame (X := [σ.n + 1]) (by repeat (first | exact Ext.refl _ _ | assumption | refine Ext.push ?_ _ | ((refine Ext.set ?_ ?_ _); rotate_left; · (simp (maxSteps := 3000000) (maxDischargeDepth := 12) only [push_cast, appendX, Nat.reduceAdd, Nat.reduceEqDiff, Nat.reduceLT, Nat.reduceLeDiff, reduceIte, reduceCtorEq, dc16, gtb1, Heap.lt gtb1, gto1, Heap.lt gto1, gtq1, Heap.lt gtq1, ↓dnapp, xt2.2, xt2.ltT, xt2.leT, gtb2, Heap.lt gtb2, gto2, Heap.lt gto2, gtq2, Heap.lt gtq2, ↓dncl2, ↓dnlf2, gtq3, Heap.lt gtq3, gtb3, Heap.lt gtb3, gto3, Heap.lt gto3, gtg4, Heap.lt gtg4, gtp4, Heap.lt gtp4, gtb4, Heap.lt gtb4, gto4, Heap.lt gto4, xt04.2, xt04.ltT, xt04.leT, ↓dncl4, ↓dnlf4, xt5.2, xt5.ltT, xt5.leT, xt45.2, xt45.ltT, xt45.leT, ↓dncl5, ↓dnlf5, gto5, Heap.lt gto5, gtb5, Heap.lt gtb5, gtr5, Heap.lt gtr5, xt05.2, xt05.ltT, xt05.leT, dce, xt6.2, xt6.ltT, xt6.leT, gto6, Heap.lt gto6, gtr6, Heap.lt gtr6, xt06.2, xt06.ltT, xt06.leT])) | ((refine Ext.then1 (by assumption) ?_ ?_); rotate_left; · (intro p hp _; first | assumption | exact List.mem_cons_of_mem _ hp | (cases hp; done) | (simp at hp; subst hp; simp))))) (fun q hq hm => ?_), fun q hq => ?_⟩
            · have h1 := hd4 q hq
              rcases List.mem_cons.1 hm with h2 | h2
              · omega
              · cases h2
            · have h1 := hd4 q hq
              omega
          | false =>
            repeat (first | (with_reducible first | refine AW.seq ?_ | refine AW.block ?_ | refine AW.skip ?_ | refine AW.ret ?_ | refine AW.exit ?_ | refine AW.reg hT ?_) | ((with_reducible refine AW.cond_true ?_ ?_); · rfl) | ((with_reducible refine AW.cond_false ?_ ?_); · rfl) | simp (maxSteps := 3000000) (maxDischargeDepth := 12) only [seval,push_cast,appendX,Try.results32,GonO,LayO,ItO,itC,dc16,gtb1,Heap.lt gtb1,gto1,Heap.lt gto1,gtq1,Heap.lt gtq1,↓dnapp,xt2.2,xt2.ltT,xt2.leT,gtb2,Heap.lt gtb2,gto2,Heap.lt gto2,gtq2,Heap.lt gtq2,↓dncl2,↓dnlf2,gtq3,Heap.lt gtq3,gtb3,Heap.lt gtb3,gto3,Heap.lt gto3,gtg4,Heap.lt gtg4,gtp4,Heap.lt gtp4,gtb4,Heap.lt gtb4,gto4,Heap.lt gto4,xt04.2,xt04.ltT,xt04.leT,↓dncl4,↓dnlf4,xt5.2,xt5.ltT,xt5.leT,xt45.2,xt45.ltT,xt45.leT,↓dncl5,↓dnlf5,gto5,Heap.lt gto5,gtb5,Heap.lt gtb5,gtr5,Heap.lt gtr5,xt05.2,xt05.ltT,xt05.leT,dce,xt6.2,xt6.ltT,xt6.leT,gto6,Heap.lt gto6,gtr6,Heap.lt gtr6,xt06.2,xt06.ltT,xt06.leT])
            exact hno (by rw [hpk, if_neg (fun h => by have := hb.2 ⟨h.2.2.2.2.1, h.2.2.2.2.2⟩; cases this)]) _ _ rfl (by repeat (first | exact Ext.refl _ _ | assumption | refine Ext.push ?_ _ | ((refine Ext.set ?_ ?_ _); rotate_left; · (simp (maxSteps := 3000000) (maxDischargeDepth := 12) only [push_cast, appendX, Nat.reduceAdd, Nat.reduceEqDiff, Nat.reduceLT, Nat.reduceLeDiff, reduceIte, reduceCtorEq, dc16, gtb1, Heap.lt gtb1, gto1, Heap.lt gto1, gtq1, Heap.lt gtq1, ↓dnapp, xt2.2, xt2.ltT, xt2.leT, gtb2, Heap.lt gtb2, gto2, Heap.lt gto2, gtq2, Heap.lt gtq2, ↓dncl2, ↓dnlf2, gtq3, Heap.lt gtq3, gtb3, Heap.lt gtb3, gto3, Heap.lt gto3, gtg4, Heap.lt gtg4, gtp4, Heap.lt gtp4, gtb4, Heap.lt gtb4, gto4, Heap.lt gto4, xt04.2, xt04.ltT, xt04.leT, ↓dncl4, ↓dnlf4, xt5.2, xt5.ltT, xt5.leT, xt45.2, xt45.ltT, xt45.leT, ↓dncl5, ↓dnlf5, gto5, Heap.lt gto5, gtb5, Heap.lt gtb5, gtr5, Heap.lt gtr5, xt05.2, xt05.ltT, xt05.leT, dce, xt6.2, xt6.ltT, xt6.leT, gto6, Heap.lt gto6, gtr6, Heap.lt gtr6, xt06.2, xt06.ltT, xt06.leT])) | ((refine Ext.then1 (by assumption) ?_ ?_); rotate_left; · (intro p hp _; first | assumption | exact List.mem_cons_of_mem _ hp | (cases hp; done) | (simp at hp; subst hp; simp)))))
        · have dce : (e == 0) = false := by simpa using he
          repeat (first | (with_reducible first | refine AW.seq ?_ | refine AW.block ?_ | refine AW.skip ?_ | refine AW.ret ?_ | refine AW.exit ?_ | refine AW.reg hT ?_) | ((with_reducible refine AW.cond_true ?_ ?_); · rfl) | ((with_reducible refine AW.cond_false ?_ ?_); · rfl) | simp (maxSteps := 3000000) (maxDischargeDepth := 12) only [seval,push_cast,appendX,Try.results32,GonO,LayO,ItO,itC,dc16,gtb1,Heap.lt gtb1,gto1,Heap.lt gto1,gtq1,Heap.lt gtq1,↓dnapp,xt2.2,xt2.ltT,xt2.leT,gtb2,Heap.lt gtb2,gto2,Heap.lt gto2,gtq2,Heap.lt gtq2,↓dncl2,↓dnlf2,gtq3,Heap.lt gtq3,gtb3,Heap.lt gtb3,gto3,Heap.lt gto3,gtg4,Heap.lt gtg4,gtp4,Heap.lt gtp4,gtb4,Heap.lt gtb4,gto4,Heap.lt gto4,xt04.2,xt04.ltT,xt04.leT,↓dncl4,↓dnlf4,xt5.2,xt5.ltT,xt5.leT,xt45.2,xt45.ltT,xt45.leT,↓dncl5,↓dnlf5,gto5,Heap.lt gto5,gtb5,Heap.lt gtb5,gtr5,Heap.lt gtr5,xt05.2,xt05.ltT,xt05.leT,dce])
          exact hno (by rw [hpk, if_neg (fun h => he h.2.2.2.1)]) _ _ rfl (by repeat (first | exact Ext.refl _ _ | assumption | refine Ext.push ?_ _ | ((refine Ext.set ?_ ?_ _); rotate_left; · (simp (maxSteps := 3000000) (maxDischargeDepth := 12) only [push_cast, appendX, Nat.reduceAdd, Nat.reduceEqDiff, Nat.reduceLT, Nat.reduceLeDiff, reduceIte, reduceCtorEq, dc16, gtb1, Heap.lt gtb1, gto1, Heap.lt gto1, gtq1, Heap.lt gtq1, ↓dnapp, xt2.2, xt2.ltT, xt2.leT, gtb2, Heap.lt gtb2, gto2, Heap.lt gto2, gtq2, Heap.lt gtq2, ↓dncl2, ↓dnlf2, gtq3, Heap.lt gtq3, gtb3, Heap.lt gtb3, gto3, Heap.lt gto3, gtg4, Heap.lt gtg4, gtp4, Heap.lt gtp4, gtb4, Heap.lt gtb4, gto4, Heap.lt gto4, xt04.2, xt04.ltT, xt04.leT, ↓dncl4, ↓dnlf4, xt5.2, xt5.ltT, xt5.leT, xt45.2, xt45.ltT, xt45.leT, ↓dncl5, ↓dnlf5, gto5, Heap.lt gto5, gtb5, Heap.lt gtb5, gtr5, Heap.lt gtr5, xt05.2, xt05.ltT, xt05.leT, dce])) | ((refine Ext.then1 (by assumption) ?_ ?_); rotate_left; · (intro p hp _; first | assumption | exact List.mem_cons_of_mem _ hp | (cases hp; done) | (simp at hp; subst hp; simp)))))
  · have dc16 : decide (16 < (L.length : Int)) = true := decide_eq_true (by omega)
    repeat (first | (with_reducible first | refine AW.seq ?_ | refine AW.block ?_ | refine AW.skip ?_ | refine AW.ret ?_ | refine AW.exit ?_ | refine AW.reg hT ?_) | ((with_reducible refine AW.cond_true ?_ ?_); · rfl) | ((with_reducible refine AW.cond_false ?_ ?_); · rfl) | simp (maxSteps := 3000000) (maxDischargeDepth := 12) only [seval,push_cast,appendX,Try.results32,itC,del,dc16])
    exact hno (by simp [packA, h16]) _ _ rfl (by repeat (first | exact Ext.refl _ _ | assumption | refine Ext.push ?_ _ | ((refine Ext.set ?_ ?_ _); rotate_left; · (simp (maxSteps := 3000000) (maxDischargeDepth := 12) only [push_cast, appendX, Nat.reduceAdd, Nat.reduceEqDiff, Nat.reduceLT, Nat.reduceLeDiff, reduceIte, reduceCtorEq, dc16])) | ((refine Ext.then1 (by assumption) ?_ ?_); rotate_left; · (intro p hp _; first | assumption | exact List.mem_cons_of_mem _ hp | (cases hp; done) | (simp at hp; subst hp; simp)))))
theorem steps_sound {c : Int} (h : known c) : (flds (stepsOf c)).Nodup ∧ ∀ a ∈ stepsOf c, a.sound := by
  rcases h with rfl | rfl | rfl | rfl | rfl | rfl | rfl | rfl | rfl | rfl | rfl | rfl | rfl <;> simp [stepsOf, flds, Stp.fld, Stp.sound, isF]
theorem known_notL {c : Int} (h : known c) : ¬ isL c := by
  rcases h with rfl | rfl | rfl | rfl | rfl | rfl | rfl | rfl | rfl | rfl | rfl | rfl | rfl <;> simp [isL]
def hopB (v : Int) : List Int := digits 2 264 ++ (digits 4 (167772160 + v) ++ digits 2 8192)
def hopS : List Stp := [.fix 2 264, .node 1, .fix 2 8192]
theorem hopS_sound : (flds hopS).Nodup ∧ ∀ a ∈ hopS, a.sound := by simp [hopS, flds, Stp.fld, Stp.sound, isF]
theorem hop_run {F : Form} (z : GS F) (x : Fs) : z.hop x.a = ((z.run x hopS).1, (z.run x hopS).2.a) := rfl
theorem hop_bts (x : Fs) : btsL x hopS = hopB x.a := by simp [btsL, hopS, bts, hopB, Fs.get]
/-- An item that may be. -/
def mayI (x : Fs) (L : List Int) : Prop :=
  (isL x.cls ∧ x = zF x.cls ∧ L.length ≤ 16 ∧ ∀ v ∈ L, 0 ≤ v ∧ v < 16) ∨
  (known x.cls ∧ L = [] ∧ preB x = true ∧ (∀ a ∈ stepsOf x.cls, okS x a) ∧ ∀ j, isF j → j ∉ flds (stepsOf x.cls) → x.get j = 0)
def bodyI (x : Fs) (L : List Int) : List Int := if isL x.cls then L.flatMap hopB else btsL x (stepsOf x.cls)
theorem btsL_octs (x : Fs) : ∀ l, Octs (btsL x l)
  | [] => by intro d hd; cases hd
  | a :: l => by
    have : btsL x (a :: l) = bts x a ++ btsL x l := by simp [btsL]
    rw [this]
    refine Octs.append ?_ (btsL_octs x l)
    cases a <;> exact digits_octs _ _
theorem hops_octsB : ∀ L : List Int, Octs (L.flatMap hopB)
  | [] => by intro d hd; cases hd
  | v :: L => by
    rw [List.flatMap_cons]
    exact Octs.append (Octs.append (digits_octs _ _) (Octs.append (digits_octs _ _) (digits_octs _ _))) (hops_octsB L)
theorem bodyI_octs (x : Fs) (L : List Int) : Octs (bodyI x L) := by
  unfold bodyI
  split
  · exact hops_octsB L
  · exact btsL_octs x _
theorem get_zF (c : Int) (j : Nat) : (zF c).get j = 0 := by
  unfold Fs.get
  split <;> rfl
theorem lay_hopB (s : List Int) (o b : Bool) {v : Int} (h : 0 ≤ v ∧ v < 16) : GS.hop (F := layF) ⟨b, (s, o)⟩ v = (⟨b, (s ++ hopB v, o)⟩, v) := by
  have h1 := lay_run hopS { zF 0 with a := v } s b o (fun a ha => ⟨hopS_sound.2 a ha, by
    simp [hopS] at ha
    rcases ha with rfl | rfl | rfl
    · trivial
    · exact h
    · trivial⟩)
  have h2 := hop_run (F := layF) ⟨b, (s, o)⟩ { zF 0 with a := v }
  rw [h1, hop_bts] at h2
  exact h2
theorem lay_hops : ∀ (L : List Int) (s : List Int) (b o : Bool), (∀ v ∈ L, 0 ≤ v ∧ v < 16) → GS.hops (F := layF) ⟨b, (s, o)⟩ L = ⟨b, (s ++ L.flatMap hopB, o)⟩
  | [], s, b, o, h => by simp [GS.hops]
  | v :: L, s, b, o, h => by
    have := lay_hops L (s ++ hopB v) b o (fun w hw => h w (List.mem_cons_of_mem _ hw))
    have e : GS.hops (F := layF) ⟨b, (s, o)⟩ (v :: L) = GS.hops (GS.hop (F := layF) ⟨b, (s, o)⟩ v).1 L := rfl
    rw [e, lay_hopB s o b (h v (by simp)), this]
    simp [List.append_assoc]
theorem layI_may {x : Fs} {L : List Int} (h : mayI x L) : layI x L = ⟨true, (bodyI x L, true)⟩ := by
  rcases h with ⟨h1, h2, h3, h4⟩ | ⟨h1, h2, h3, h4, h5⟩
  · simp only [layI, bodyI, h1, if_true]
    rw [lay_hops L [] true true h4]
    simp [GS.needs, h3]
  · have hn := known_notL h1
    simp only [layI, bodyI, hn, if_false, thrI, h3]
    have := lay_run (stepsOf x.cls) x [] true true (fun a ha => ⟨(steps_sound h1).2 a ha, h4 a ha⟩)
    simp only [needs_true]
    rw [this]; rfl
theorem tak_hopB (r : List Int) {v : Int} (h : 0 ≤ v ∧ v < 16) : GS.hop (F := takF) ⟨true, (hopB v ++ r, 0)⟩ 0 = (⟨true, (r, 0)⟩, v) := by
  have h1 := tak_run hopS { zF 0 with a := v } (zF 0) r true hopS_sound.1 (fun a ha => ⟨hopS_sound.2 a ha, by
    simp [hopS] at ha
    rcases ha with rfl | rfl | rfl
    · trivial
    · exact h
    · trivial⟩) (fun j _ => get_zF 0 j)
  have h2 := hop_run (F := takF) ⟨true, (hopB v ++ r, 0)⟩ (zF 0)
  rw [hop_bts] at h1
  have h1' : GS.run (F := takF) ⟨true, (hopB v ++ r, 0)⟩ (zF 0) hopS = (⟨true, (r, 0)⟩, updF { zF 0 with a := v } (flds hopS) (zF 0)) := h1
  rw [h1'] at h2
  exact h2
theorem takL_run : ∀ (M : List Int) (n : Nat) (L : List Int), (∀ v ∈ M, 0 ≤ v ∧ v < 16) → M.length ≤ n → takL n ⟨true, (M.flatMap hopB, 0)⟩ L = (⟨true, ([], 0)⟩, L ++ M)
  | [], n, L, h, hn => by
    cases n with
    | zero => simp [takL]
    | succ n => simp [takL, takF]
  | v :: M, 0, L, h, hn => by simp at hn
  | v :: M, n + 1, L, h, hn => by
    have hv := h v (by simp)
    have e : (v :: M).flatMap hopB = hopB v ++ M.flatMap hopB := by simp
    have hm : takF.more ((hopB v ++ M.flatMap hopB, 0) : List Int × Int) = true := by
      show decide (0 < (hopB v ++ M.flatMap hopB).length) = true
      simp [hopB, digits_length]; omega
    rw [e]
    show (if _ then takL n (GS.hop (F := takF) ⟨true, (hopB v ++ M.flatMap hopB, 0)⟩ 0).1 (L ++ [(GS.hop (F := takF) ⟨true, (hopB v ++ M.flatMap hopB, 0)⟩ 0).2]) else _) = _
    rw [if_pos ⟨hm, rfl⟩, tak_hopB _ hv, takL_run M n _ (fun w hw => h w (List.mem_cons_of_mem _ hw)) (by simp at hn; omega)]
    simp
theorem takL_ok : ∀ (n : Nat) (z : GS takF) (L : List Int), (takL n z L).1.ok = true → z.ok = true
  | 0, z, L, h => h
  | n + 1, z, L, h => by
    have h' : (if takF.more z.s = true ∧ z.ok = true then takL n (z.hop 0).1 (L ++ [(z.hop 0).2]) else (z, L)).1.ok = true := h
    split at h'
    · rename_i hc; exact hc.2
    · exact h'
theorem takL_err : ∀ (n : Nat) (z : GS takF) (L : List Int), (takL n z L).1.s.2 = 0 → z.s.2 = 0
  | 0, z, L, h => h
  | n + 1, z, L, h => by
    have h' : (if takF.more z.s = true ∧ z.ok = true then takL n (z.hop 0).1 (L ++ [(z.hop 0).2]) else (z, L)).1.s.2 = 0 := h
    split at h'
    · exact (hop_len z 0 (takL_err n _ _ h')).1
    · exact h'
theorem takL_back : ∀ (n : Nat) (b : List Int) (L : List Int), Octs b → (takL n ⟨true, (b, 0)⟩ L).1.ok = true → (takL n ⟨true, (b, 0)⟩ L).1.s.2 = 0 → (takL n ⟨true, (b, 0)⟩ L).1.s.1.length = 0 →
    ∃ M, (takL n ⟨true, (b, 0)⟩ L).2 = L ++ M ∧ b = M.flatMap hopB ∧ ∀ v ∈ M, 0 ≤ v ∧ v < 16
  | 0, b, L, ho, h1, h2, h3 => by
    have : b = [] := List.eq_nil_of_length_eq_zero h3
    exact ⟨[], by simp [takL], by simp [this], by simp⟩
  | n + 1, b, L, ho, h1, h2, h3 => by
    by_cases hm : takF.more ((b, 0) : List Int × Int) = true
    · have e : takL (n + 1) ⟨true, (b, 0)⟩ L = takL n (GS.hop (F := takF) ⟨true, (b, 0)⟩ 0).1 (L ++ [(GS.hop (F := takF) ⟨true, (b, 0)⟩ 0).2]) := if_pos ⟨hm, rfl⟩
      rw [e] at h1 h2 h3 ⊢
      have k1 := takL_ok n _ _ h1
      have k2 := takL_err n _ _ h2
      have hr := hop_run (F := takF) ⟨true, (b, 0)⟩ (zF 0)
      have hr' : GS.hop (F := takF) ⟨true, (b, 0)⟩ 0 = ((GS.run (F := takF) ⟨true, (b, 0)⟩ (zF 0) hopS).1, (GS.run (F := takF) ⟨true, (b, 0)⟩ (zF 0) hopS).2.a) := hr
      rw [hr'] at h1 h2 h3 k1 k2 ⊢
      obtain ⟨b1, b2⟩ := tak_back hopS (zF 0) b ho hopS_sound.1 hopS_sound.2 (fun j _ => get_zF 0 j) k1 k2
      rw [hop_bts] at b1
      have hv : okS (GS.run (F := takF) ⟨true, (b, 0)⟩ (zF 0) hopS).2 (.node 1) := b2 _ (by simp [hopS])
      revert h1 h2 h3 k1 k2 b1 hv
      generalize GS.run (F := takF) ⟨true, (b, 0)⟩ (zF 0) hopS = R
      obtain ⟨⟨ok, b', e'⟩, x⟩ := R
      intro h1 h2 h3 k1 k2 b1 hv
      simp only at k1 k2
      subst k1 k2
      obtain ⟨M, m1, m2, m3⟩ := takL_back n b' _ (by
        intro d hd
        exact ho d (by rw [b1]; exact List.mem_append_right _ hd)) h1 h2 h3
      refine ⟨x.a :: M, by rw [m1]; simp, ?_, fun v hvm => ?_⟩
      · rw [List.flatMap_cons, ← m2]; exact b1
      · rcases List.mem_cons.1 hvm with rfl | hvm
        · exact hv
        · exact m3 v hvm
    · have e : takL (n + 1) ⟨true, (b, 0)⟩ L = (⟨true, (b, 0)⟩, L) := if_neg (fun h => hm h.1)
      rw [e] at h3 ⊢
      have : b = [] := List.eq_nil_of_length_eq_zero h3
      exact ⟨[], by simp, by simp [this], by simp⟩
theorem hops_len : ∀ M : List Int, (M.flatMap hopB).length = 8 * M.length
  | [] => rfl
  | v :: M => by rw [List.flatMap_cons, List.length_append, hops_len M]; simp [hopB, digits_length]; omega
theorem pre_zF {c : Int} (h : known c) : preB (zF c) = true := by
  rcases h with rfl | rfl | rfl | rfl | rfl | rfl | rfl | rfl | rfl | rfl | rfl | rfl | rfl <;> decide
/-- What is told of an item's own body. -/
theorem unp_may {x : Fs} {L : List Int} (h : mayI x L) : unpA x.cls (kindI x.cls) (bodyI x L) = (x, L, 0) := by
  have hb := bodyI_octs x L
  rcases h with ⟨h1, h2, h3, h4⟩ | ⟨h1, h2, h3, h4, h5⟩
  · have hk : takL (tkM ⟨true, (L.flatMap hopB, 0)⟩) ⟨true, (L.flatMap hopB, 0)⟩ [] = (⟨true, ([], 0)⟩, L) := by
      have : L.length ≤ tkM ⟨true, (L.flatMap hopB, 0)⟩ := by
        have e := hops_len L
        simp only [tkM, if_true]
        rw [e]; omega
      simpa using takL_run L _ [] h4 this
    have ht : takI x.cls (bodyI x L) = (⟨true, ([], 0)⟩, zF x.cls, L) := by
      simp only [takI, bodyI, h1, if_true, hk]
      simp [GS.needs, h3]
    simp only [unpA, ht]
    rw [← h2]; simp
  · have hn := known_notL h1
    have hr := tak_run (stepsOf x.cls) x (zF x.cls) [] true (steps_sound h1).1 (fun a ha => ⟨(steps_sound h1).2 a ha, h4 a ha⟩) (fun j _ => get_zF _ j)
    rw [List.append_nil] at hr
    have hu : updF x (flds (stepsOf x.cls)) (zF x.cls) = x := updF_all rfl (fun k hk hm => by rw [h5 k hk hm, get_zF])
    rw [hu] at hr
    have ht : takI x.cls (bodyI x L) = (⟨true, ([], 0)⟩, x, []) := by
      have e : thrI (F := takF) ⟨true, (btsL x (stepsOf x.cls), 0)⟩ (zF x.cls) = GS.run (F := takF) ⟨true, (btsL x (stepsOf x.cls), 0)⟩ (zF x.cls) (stepsOf x.cls) := by
        simp only [thrI, pre_zF h1, needs_true]; rfl
      simp only [takI, bodyI, hn, if_false, e, hr]
    simp only [unpA, ht]
    rw [h2]; simp
/-- What is told, may be, and has this body. -/
theorem unp_back {c k : Int} {b : List Int} (ho : Octs b) (h : (unpA c k b).2.2 = 0) : mayI (unpA c k b).1 (unpA c k b).2.1 ∧ (unpA c k b).1.cls = c ∧ kindI c = k ∧ bodyI (unpA c k b).1 (unpA c k b).2.1 = b := by
  unfold unpA at h ⊢
  split at h
  · rename_i hc
    rw [if_pos hc]
    obtain ⟨c1, c2, c3, c4⟩ := hc
    by_cases hL : isL c
    · simp only [takI, hL, if_true] at c1 c3 c4 ⊢
      have c1' : (takL (tkM ⟨true, (b, 0)⟩) ⟨true, (b, 0)⟩ []).1.ok = true ∧ (takL (tkM ⟨true, (b, 0)⟩) ⟨true, (b, 0)⟩ []).2.length ≤ 16 := by simpa [GS.needs] using c1
      obtain ⟨M, m1, m2, m3⟩ := takL_back _ b [] ho c1'.1 c3 c4
      rw [List.nil_append] at m1
      have c16 := c1'.2
      rw [m1] at c16 ⊢
      refine ⟨.inl ⟨hL, rfl, c16, m3⟩, rfl, c2, ?_⟩
      simp only [bodyI]
      rw [if_pos (show isL (zF c).cls from hL)]
      exact m2.symm
    · simp only [takI, hL, if_false] at c1 c3 c4 ⊢
      have hpre : preB (zF c) = true := by
        have := run_ok (stepsOf (zF c).cls) _ _ c1
        simpa [GS.needs] using this
      have hk : known c := by
        by_cases hk : known c
        · exact hk
        · have e : preB (zF c) = false := by
            simp only [preB]; rw [if_neg (show ¬ known (zF c).cls from hk)]
          rw [e] at hpre; cases hpre
      have e : thrI (F := takF) ⟨true, (b, 0)⟩ (zF c) = GS.run (F := takF) ⟨true, (b, 0)⟩ (zF c) (stepsOf c) := by
        simp only [thrI, pre_zF hk, needs_true]; rfl
      rw [e] at c1 c3 c4 ⊢
      obtain ⟨b1, b2⟩ := tak_back (stepsOf c) (zF c) b ho (steps_sound hk).1 (steps_sound hk).2 (fun j _ => get_zF _ j) c1 c3
      have hkeep : ∀ j, j ∉ flds (stepsOf c) → (GS.run (F := takF) ⟨true, (b, 0)⟩ (zF c) (stepsOf c)).2.get j = 0 := fun j hj => by rw [run_keeps _ _ _ hj, get_zF]
      have hcls : (GS.run (F := takF) ⟨true, (b, 0)⟩ (zF c) (stepsOf c)).2.cls = c := run_cls _ _ _
      have hnil : (GS.run (F := takF) ⟨true, (b, 0)⟩ (zF c) (stepsOf c)).1.s.1 = [] := List.eq_nil_of_length_eq_zero c4
      rw [hnil, List.append_nil] at b1
      revert b1 b2 hkeep hcls
      generalize (GS.run (F := takF) ⟨true, (b, 0)⟩ (zF c) (stepsOf c)).2 = w
      intro b1 b2 hkeep hcls
      have hk' : known w.cls := by rw [hcls]; exact hk
      refine ⟨.inr ⟨hk', rfl, ?_, by rw [hcls]; exact b2, fun j _ hj => hkeep j (by rwa [hcls] at hj)⟩, hcls, c2, ?_⟩
      · simp only [preB, hk', if_true]
        rw [hcls]
        by_cases h5 : c = 5 ∨ c = 23
        · rw [if_pos h5]
          have hr : okS w (.raw 4 4) := b2 _ (by rcases h5 with rfl | rfl <;> simp [stepsOf])
          have : w.u < 256 ^ 4 := hr.2
          simp at this ⊢; omega
        · rw [if_neg h5]
          by_cases h207 : c = 207
          · rw [if_pos h207]
            have h6 := hkeep 6 (by subst h207; simp [stepsOf, flds, Stp.fld])
            have : w.bw = 0 := h6
            simp [this]
          · rw [if_neg h207]
      · simp only [bodyI]
        rw [if_neg (by rw [hcls]; exact hL), hcls]
        exact b1.symm
  · cases h
theorem unp_no {c k : Int} {b : List Int} (h : (unpA c k b).2.2 ≠ 0) : unpA c k b = (zF 0, [], 5) := by
  unfold unpA at h ⊢
  split
  · rename_i hc; rw [if_pos hc] at h; exact absurd rfl h
  · rfl
theorem pack_may {x : Fs} {L : List Int} (h : mayI x L) : packA x L = (x.cls, kindI x.cls, bodyI x L, 0) := by
  have h16 : L.length ≤ 16 := by
    rcases h with ⟨_, _, h3, _⟩ | ⟨_, h2, _⟩
    · exact h3
    · rw [h2]; simp
  have hu := unp_may h
  simp only [packA, layI_may h]
  simp only [hu, h16, true_and, and_self, if_true]
theorem pack_no {x : Fs} {L : List Int} (h : ¬ mayI x L) : packA x L = (0, 0, [], 2) := by
  unfold packA
  rw [if_neg]
  rintro ⟨_, _, _, h0, hx, hM⟩
  have hb := (unp_back (layI_octs x L) h0).1
  rw [← hx, ← hM] at hb
  exact h hb
theorem FZ.item {t m : Nat} {es : List (List DV)} {d d' : DV} (x : Fs) (h : FZ t m es d d') : FZ t m es (.agg (itC x d)) (.agg (itC x d')) := by
  obtain ⟨h1, h2⟩ := FZL.spec (t := t) (m := m) (els := es) (l := itC x d) (l' := itC x d') ⟨.keep _, .keep _, .keep _, .keep _, .keep _, h, .keep _, .keep _, .keep _, .keep _, .keep _, .keep _, trivial⟩
  exact .agg h1 h2
theorem FZ.two {t m : Nat} {es : List (List DV)} {d d' y : DV} (h : FZ t m es d d') : FZ t m es (.tup [d, y]) (.tup [d', y]) := by
  obtain ⟨h1, h2⟩ := FZL.spec (t := t) (m := m) (els := es) (l := [d, y]) (l' := [d', y]) ⟨h, .keep _, trivial⟩
  exact .tup h1 h2
theorem FZ.ob {t m : Nat} {es : List (List DV)} {d d' x y : DV} (h : FZ t m es d d') : FZ t m es (.agg [x, y, d]) (.agg [x, y, d']) := by
  obtain ⟨h1, h2⟩ := FZL.spec (t := t) (m := m) (els := es) (l := [x, y, d]) (l' := [x, y, d']) ⟨.keep _, .keep _, h, trivial⟩
  exact .agg h1 h2
theorem unpackI_ok (σ : Heap) {c k : Int} {d : DV} {b : List Int} (dncl : cellsD d = [d]) (dnlf : Cm.leaf d = true) (hs : Src σ d (bytesD b)) (ho : Octs b) (hb : b.length ≤ 1000000) (hc : -9223372036854775808 ≤ c ∧ c ≤ 9223372036854775807) :
    ACalls Try.prog 27 [.agg [.sc (.int .i64 c), .sc (.int .i64 k), d]] σ (fun y σ' => y = .tup [.agg (itC (unpA c k b).1 (.imm ((unpA c k b).2.1.map eI))), .sc (.int .i64 (unpA c k b).2.2)] ∧ Ext [] σ σ') := by
  refine ACalls.toImmG (e := 3) (els := (unpA c k b).2.1.map eI) (fun d => .tup [.agg (itC (unpA c k b).1 d), .sc (.int .i64 (unpA c k b).2.2)]) (fun t m es d d' h => FZ.two (FZ.item _ h)) ?_ ?_
  · exact Tells.tup ⟨Tells.agg ⟨Tells.refl _, Tells.refl _, Tells.refl _, Tells.refl _, Tells.refl _, Tells.nil, Tells.refl _, Tells.refl _, Tells.refl _, Tells.refl _, Tells.refl _, Tells.refl _, trivial⟩, Tells.refl _, trivial⟩
  · exact (unpack_ok σ dncl dnlf hs ho hb hc).mono fun y σ' ⟨h1, dl, h2, h3, h4⟩ => ⟨dl, h2, h3, h4, h1⟩
theorem packI_ok (σ : Heap) {x : Fs} {L : List Int} (hw : x.Wf) (hL : L.length ≤ 1000000) :
    ACalls Try.prog 32 [.agg (itC x (.imm (L.map eI)))] σ (fun y σ' => y = .tup [.agg [.sc (.int .i64 (packA x L).1), .sc (.int .i64 (packA x L).2.1), .imm (bytesD (packA x L).2.2.1)], .sc (.int .i64 (packA x L).2.2.2)] ∧ Ext [] σ σ') := by
  refine ACalls.toImmG (e := 5) (els := bytesD (packA x L).2.2.1) (fun d => .tup [.agg [.sc (.int .i64 (packA x L).1), .sc (.int .i64 (packA x L).2.1), d], .sc (.int .i64 (packA x L).2.2.2)]) (fun t m es d d' h => FZ.two (FZ.ob h)) ?_ ?_
  · exact Tells.tup ⟨Tells.agg ⟨Tells.refl _, Tells.refl _, Tells.nil, trivial⟩, Tells.refl _, trivial⟩
  · exact (pack_ok σ hw hL).mono fun y σ' ⟨h1, dl, h2, h3, h4⟩ => ⟨dl, h2, h3, h4, h1⟩
theorem unp_cases (c k : Int) {b : List Int} (ho : Octs b) : ∃ w M e, unpA c k b = (w, M, e) ∧ ((e = 0 ∧ mayI w M ∧ w.cls = c ∧ kindI c = k ∧ bodyI w M = b) ∨ (e = 5 ∧ w = zF 0 ∧ M = [])) := by
  by_cases h : (unpA c k b).2.2 = 0
  · exact ⟨_, _, _, rfl, .inl ⟨h, unp_back ho h⟩⟩
  · exact ⟨_, _, _, unp_no h, .inr ⟨rfl, rfl, rfl⟩⟩
theorem may_wf {x : Fs} {L : List Int} (hc : -9223372036854775808 ≤ x.cls ∧ x.cls ≤ 9223372036854775807) (h : mayI x L) : x.Wf := by
  rcases h with ⟨h1, h2, h3, h4⟩ | ⟨h1, h2, h3, h4, h5⟩
  · rw [h2]; exact zF_wf _ hc
  · have key : ∀ j, isF j → (0 ≤ x.get j ∧ (j = 4 → x.get j ≤ 18446744073709551615) ∧ (j ≠ 4 → x.get j < 4294967296)) := fun j hj => by
      by_cases hm : j ∈ flds (stepsOf x.cls)
      · simp only [flds, List.mem_flatMap] at hm
        obtain ⟨a, ha, hja⟩ := hm
        have hs := (steps_sound h1).2 a ha
        have hk := h4 a ha
        cases a with
        | fix n u => simp [Stp.fld] at hja
        | node i =>
          simp [Stp.fld] at hja; subst hja
          have := hk.1; have := hk.2
          exact ⟨by omega, by omega, by omega⟩
        | int n i top =>
          simp [Stp.fld] at hja; subst hja
          have h7 := hs.2.2.1
          have h8 : (256 : Int) ^ n ≤ 256 ^ 4 := by
            have : (256 : Nat) ^ n ≤ 256 ^ 4 := Nat.pow_le_pow_right (by omega) hs.2.1
            exact_mod_cast this
          have h9 : (256 : Int) ^ 4 = 4294967296 := by decide
          have := hk.1; have := hk.2
          exact ⟨by omega, by omega, by omega⟩
        | raw n i =>
          simp [Stp.fld] at hja; subst hja
          have e4 : (256 : Int) ^ 4 = 4294967296 := by decide
          have e8 : (256 : Int) ^ 8 = 18446744073709551616 := by decide
          have h8 : n ≤ 8 := hs.2.1
          have hp : (256 : Int) ^ n ≤ 256 ^ 8 := by
            have : (256 : Nat) ^ n ≤ 256 ^ 8 := Nat.pow_le_pow_right (by omega) h8
            exact_mod_cast this
          have hk1 := hk.1
          have hk2 := hk.2
          refine ⟨hk1, fun _ => by omega, fun hj4 => ?_⟩
          have hn4 : n = 4 := by
            rcases h1 with hc | hc | hc | hc | hc | hc | hc | hc | hc | hc | hc | hc | hc <;> rw [hc] at ha <;> simp [stepsOf] at ha <;> omega
          rw [hn4, e4] at hk2
          exact hk2
      · rw [h5 j hj hm]; exact ⟨by omega, by omega, by omega⟩
    have k1 := key 1 (by simp [isF])
    have k2 := key 2 (by simp [isF])
    have k3 := key 3 (by simp [isF])
    have k4 := (key 4 (by simp [isF])).1
    have k4' := (key 4 (by simp [isF])).2.1 rfl
    have k6 := key 6 (by simp [isF])
    have k7 := key 7 (by simp [isF])
    have k8 := key 8 (by simp [isF])
    have k9 := key 9 (by simp [isF])
    have k10 := key 10 (by simp [isF])
    have k11 := key 11 (by simp [isF])
    simp only [Fs.get] at k1 k2 k3 k4 k4' k6 k7 k8 k9 k10 k11
    exact ⟨hc, by omega, by omega, by omega, by omega, by omega, by omega, by omega, by omega, by omega, by omega⟩
theorem may_len {x : Fs} {L : List Int} (h : mayI x L) : L.length ≤ 16 := by
  rcases h with ⟨_, _, h3, _⟩ | ⟨_, h2, _⟩
  · exact h3
  · rw [h2]; simp
theorem body_len4 {x : Fs} {L : List Int} (h : mayI x L) : (bodyI x L).length % 4 = 0 := by
  rcases h with ⟨h1, h2, h3, h4⟩ | ⟨h1, h2, h3, h4, h5⟩
  · simp only [bodyI, h1, if_true]; rw [hops_len]; omega
  · have hn := known_notL h1
    simp only [bodyI, hn, if_false]
    rcases h1 with h | h | h | h | h | h | h | h | h | h | h | h | h <;> (rw [h]; simp [stepsOf, btsL, bts, digits_length])
theorem pack_cases (x : Fs) (L : List Int) : ∃ c k b e, packA x L = (c, k, b, e) ∧ Octs b ∧ b.length ≤ 1000000 ∧ ((e = 0 ∧ mayI x L ∧ c = x.cls ∧ k = kindI x.cls ∧ b = bodyI x L) ∨ (e = 2 ∧ ¬ mayI x L ∧ c = 0 ∧ k = 0 ∧ b = [])) := by
  by_cases h : mayI x L
  · refine ⟨_, _, _, _, pack_may h, bodyI_octs x L, ?_, .inl ⟨rfl, h, rfl, rfl, rfl⟩⟩
    have e := layI_may h
    rcases h with ⟨h1, h2, h3, h4⟩ | ⟨h1, h2, h3, h4, h5⟩
    · simp only [bodyI, h1, if_true]; rw [hops_len]; omega
    · have hn := known_notL h1
      simp only [bodyI, hn, if_false]
      rcases h1 with h | h | h | h | h | h | h | h | h | h | h | h | h <;> (rw [h]; simp [stepsOf, btsL, bts, digits_length])
  · exact ⟨0, 0, [], 2, pack_no h, (by intro d hd; cases hd), by simp, .inr ⟨rfl, h, rfl, rfl, rfl⟩⟩
end Go.Proofs.Ytdkhlhfdjggbpaa.Cm
