/- Package body: cells of any object; numbers that do not fit; the two forms, laid and taken, and what they have in common. Package body: the steps of a form, each for both forms at once. Package body: lists of nodes, laid and taken. Package body, plain: steps of a form through an item's numbers; what is laid is what is taken. -/
import Derived.Test.YtdkhlhfdjggbpaaCmYl
import Derived.Test.YtdkhlhfdjggbpaaCOctY
import Derived.Test.YtdkhlhfdjggbpaaCmYi
namespace Go.Proofs.Ytdkhlhfdjggbpaa.Cm
open Go.RowKit
set_option linter.unusedVariables false
set_option linter.unusedSimpArgs false
set_option maxRecDepth 20000
set_option maxHeartbeats 8000000
/-- Of the old objects just fp were touched, and hold what fp' holds. -/
def Grew (σ σ' : Heap) (fp fp' : List Nat) : Prop := Ext fp σ σ' ∧ ∀ q, q < σ.n → q ∈ fp' → q ∈ fp
theorem Grew.refl (σ : Heap) (fp : List Nat) : Grew σ σ fp fp := ⟨Ext.refl _ _, fun _ _ h => h⟩
/-- A cell of an object. -/
def CellAt (ob : AObj) (i j m : Nat) (x : DV) : Prop := ob.own = some true ∧ ob.els.length = m ∧ ∃ el, ob.els[i]? = some el ∧ el[j]? = some x
def AObj.put (ob : AObj) (i j : Nat) (y : DV) : AObj := { ob with els := ob.els.set i ((ob.els.getD i []).set j y) }
theorem CellAt.put {ob : AObj} {i j m : Nat} {x : DV} (h : CellAt ob i j m x) (y : DV) : CellAt (ob.put i j y) i j m y := by
  obtain ⟨h1, h2, el, h3, h4⟩ := h
  have hi := (List.getElem?_eq_some_iff.1 h3).1
  have hj := (List.getElem?_eq_some_iff.1 h4).1
  have hd : ob.els.getD i [] = el := by simp [List.getD, h3]
  refine ⟨h1, by simp [AObj.put, h2], el.set j y, ?_, by simp [hj]⟩
  simp only [AObj.put, hd]
  rw [List.getElem?_set_self hi]
theorem CellAt.load {σ : Heap} {t : Nat} {ob : AObj} {i j m : Nat} {x : DV} {ty : TypeId} {ti : TI} (h : CellAt ob i j m x) (hg : σ.get t = some ob) (h1 : T ty = some ti) (h2 : ti.isAgg = false) : loadD T σ ty (.ptr t i j m) = some x := by
  obtain ⟨k1, k2, el, k3, k4⟩ := h
  have hb : getO σ t m = some ob := by simp [getO, hg, k1, k2]
  simp only [loadD, memD, hb, k3, h1, h2]
  simp [k4]
theorem CellAt.store {σ : Heap} {t : Nat} {ob : AObj} {i j m : Nat} {x y : DV} {ty : TypeId} {ti : TI} (h : CellAt ob i j m x) (hg : σ.get t = some ob) (h1 : T ty = some ti) (h2 : ti.size = 1) (hy : cellsD y = [y]) (hl : Cm.leaf y = true) : storeD T σ ty (.ptr t i j m) y = some (σ.set t (ob.put i j y)) := by
  obtain ⟨k1, k2, el, k3, k4⟩ := h
  have hb : getO σ t m = some ob := by simp [getO, hg, k1, k2]
  have hj := (List.getElem?_eq_some_iff.1 k4).1
  have hd : ob.els.getD i [] = el := by simp [List.getD, k3]
  have hsp : splice el j [y] = el.set j y := by simp only [splice, List.length_cons, List.length_nil]; rw [List.set_eq_take_append_cons_drop, if_pos hj]; simp
  have hc : ob.own = true ∧ ([y] : List DV).length = ti.size ∧ j + ([y] : List DV).length ≤ el.length ∧ [y].all Cm.leaf = true := ⟨k1, by simp [h2], by simp; omega, by simp [hl]⟩
  simp only [storeD, hb, k3, h1, hy]
  rw [if_pos hc, hsp, AObj.put, hd]
/-- A number that is too great for its bytes. -/
theorem put_no (σ : Heap) (d : DV) (n : Nat) (u : Int) (h1 : 1 ≤ n) (h8 : n < 8) (hu : 256 ^ n ≤ u) :
    ACalls Try.prog 22 [d, .sc (.int .i64 n), .sc (.int .u64 u)] σ (fun x σ' => x = .tup [.sc (.slice none 0 0), .sc (.int .i64 3)] ∧ σ' = σ) := by
  have dc1 : decide ((n : Int) < 1) = false := by simp; omega
  have dc2 : decide (8 < (n : Int)) = false := by simp; omega
  have dc3 : decide ((n : Int) < 8) = true := by simp; omega
  have dcw : IntKind.i64.wrap (8 * (n : Int)) = 8 * (n : Int) := wrap_i64 (by omega) (by omega)
  have dc5 : (0 ≤ 8 * (n : Int)) = True := by simp; omega
  have dc4 : (u.fdiv (2 ^ min (8 * (n : Int)).toNat 64) == 0) = false := by
    have e : (8 * (n : Int)).toNat = 8 * n := by omega
    have e2 : min (8 * n) 64 = 8 * n := by omega
    rw [e, e2, Int.fdiv_eq_ediv_of_nonneg _ (by exact_mod_cast Nat.zero_le _), Int.pow_mul]
    have hp := pow_pos256 n
    have : 1 ≤ u / 256 ^ n := by rw [Int.le_ediv_iff_mul_le hp]; omega
    simp only [beq_eq_false_iff_ne, ne_eq]
    intro hh
    have h3 : u / 256 ^ n = 0 := hh
    omega
  refine ACalls.code hT Try.func22 rfl ?_
  simp only [Try.ntmps22, List.length_cons, List.length_nil, Nat.reduceSub, Nat.reduceAdd, List.replicate, List.cons_append, List.nil_append]
  repeat (first | (with_reducible first | refine AW.seq ?_ | refine AW.block ?_ | refine AW.skip ?_ | refine AW.ret ?_ | refine AW.exit ?_ | refine AW.reg hT ?_) | ((with_reducible refine AW.cond_true ?_ ?_); · rfl) | ((with_reducible refine AW.cond_false ?_ ?_); · rfl) | simp (maxSteps := 3000000) (maxDischargeDepth := 12) only [seval,push_cast,appendX,Try.results22,dc1,dc2,dc3,dcw,dc5,dc4])
/-- A layer. -/
def LayO (d : DV) (ok : Bool) : AObj := ⟨[[d, .sc (.bool ok)]], 121, true⟩
def LayAt (σ : Heap) (p : Nat) (fp : List Nat) (s : List Int × Bool) : Prop := ∃ d, fp = p :: tOf d ∧ p ∉ tOf d ∧ Hold σ d 5 (bytesD s.1) ∧ σ.get p = some (LayO d s.2)
def fitN (n : Nat) (u : Int) : Prop := n < 8 → u < 256 ^ n
instance (n : Nat) (u : Int) : Decidable (fitN n u) := by unfold fitN; infer_instance
def layN (s : List Int × Bool) (n : Nat) (u : Int) : (List Int × Bool) × Int := if fitN n u then ((s.1 ++ digits n u, s.2), u) else ((s.1, false), 0)
theorem lay_num (σ : Heap) {p : Nat} {fp : List Nat} {s : List Int × Bool} {n : Nat} {u : Int} (hA : LayAt σ p fp s) (hb : s.1.length + 8 ≤ 1000000) (h1 : 1 ≤ n) (h8 : n ≤ 8) (h0 : 0 ≤ u) :
    ACalls Try.prog 107 [.ptr p 0 0 1, .sc (.int .i64 n), .sc (.int .u64 u)] σ (fun x σ' => x = .sc (.int .u64 (layN s n u).2) ∧ ∃ fp', LayAt σ' p fp' (layN s n u).1 ∧ Grew σ σ' fp fp') := by
  obtain ⟨d, rfl, hpd, hh, gtp⟩ := hA
  obtain ⟨l, ok⟩ := s
  have hlt := Heap.lt gtp
  have hdl := hh.lt
  have dnl := hold_len hh
  have dncl := hh.cells
  have dnlf := hh.leaf
  refine ACalls.code hT Try.func107 rfl ?_
  simp only [Try.ntmps107, List.length_cons, List.length_nil, Nat.reduceSub, Nat.reduceAdd, List.replicate, List.cons_append, List.nil_append]
  repeat (first | (with_reducible first | refine AW.seq ?_ | refine AW.block ?_ | refine AW.skip ?_ | refine AW.ret ?_ | refine AW.exit ?_ | refine AW.reg hT ?_) | ((with_reducible refine AW.cond_true ?_ ?_); · rfl) | ((with_reducible refine AW.cond_false ?_ ?_); · rfl) | simp (maxSteps := 3000000) (maxDischargeDepth := 12) only [seval,push_cast,appendX,Try.results107,LayO,gtp,Heap.lt gtp,↓dnl,↓dncl,↓dnlf])
  by_cases hf : fitN n u
  · refine AOpsL.call (first := []) (cap := []) hT rfl rfl rfl fn22 rfl (ACalls.mono (put_ok _ d l n u hh.src dnl (by simp at hb; omega) h1 h8 h0 hf) ?_)
    rintro x σ1 ⟨d1, rfl, hh1, hn1, xt1⟩
    have dncl1 := hh1.cells
    have dnlf1 := hh1.leaf
    repeat (first | (with_reducible first | refine AW.seq ?_ | refine AW.block ?_ | refine AW.skip ?_ | refine AW.ret ?_ | refine AW.exit ?_ | refine AW.reg hT ?_) | ((with_reducible refine AW.cond_true ?_ ?_); · rfl) | ((with_reducible refine AW.cond_false ?_ ?_); · rfl) | simp (maxSteps := 3000000) (maxDischargeDepth := 12) only [seval,push_cast,appendX,Try.results107,LayO,gtp,Heap.lt gtp,↓dnl,↓dncl,↓dnlf,xt1.2,xt1.ltT,xt1.leT,↓dncl1,↓dnlf1])
    refine ⟨by simp [layN, hf], p :: tOf d1, ⟨d1, rfl, fun hq => by have := hn1 _ hq; omega, ?_, by simp (maxSteps := 3000000) (maxDischargeDepth := 12) only [push_cast, appendX, Nat.reduceAdd, Nat.reduceEqDiff, Nat.reduceLT, Nat.reduceLeDiff, reduceIte, reduceCtorEq, layN, LayO, hf, gtp, Heap.lt gtp, ↓dnl, ↓dncl, ↓dnlf, xt1.2, xt1.ltT, xt1.leT, ↓dncl1, ↓dnlf1]⟩, by repeat (first | exact Ext.refl _ _ | assumption | refine Ext.push ?_ _ | ((refine Ext.set ?_ ?_ _); rotate_left; · (simp (maxSteps := 3000000) (maxDischargeDepth := 12) only [push_cast, appendX, Nat.reduceAdd, Nat.reduceEqDiff, Nat.reduceLT, Nat.reduceLeDiff, reduceIte, reduceCtorEq, gtp, Heap.lt gtp, ↓dnl, ↓dncl, ↓dnlf, xt1.2, xt1.ltT, xt1.leT, ↓dncl1, ↓dnlf1])) | ((refine Ext.then1 (by assumption) ?_ ?_); rotate_left; · (intro p hp _; first | assumption | exact List.mem_cons_of_mem _ hp | (cases hp; done) | (simp at hp; subst hp; simp)))), fun q hq hm => ?_⟩
    · simp only [layN, hf, if_true]
      refine hh1.frame (X := [p]) (by repeat (first | exact Ext.refl _ _ | assumption | refine Ext.push ?_ _ | ((refine Ext.set ?_ ?_ _); rotate_left; · (simp (maxSteps := 3000000) (maxDischargeDepth := 12) only [push_cast, appendX, Nat.reduceAdd, Nat.reduceEqDiff, Nat.reduceLT, Nat.reduceLeDiff, reduceIte, reduceCtorEq, gtp, Heap.lt gtp, ↓dnl, ↓dncl, ↓dnlf, xt1.2, xt1.ltT, xt1.leT, ↓dncl1, ↓dnlf1])) | ((refine Ext.then1 (by assumption) ?_ ?_); rotate_left; · (intro p hp _; first | assumption | exact List.mem_cons_of_mem _ hp | (cases hp; done) | (simp at hp; subst hp; simp))))) (fun q hq hqp => ?_)
      have := hn1 q hq
      simp at hqp; omega
    · rcases List.mem_cons.1 hm with rfl | hm
      · simp
      · have := hn1 q hm; omega
  · have hf2 : n < 8 ∧ 256 ^ n ≤ u := by simp [fitN] at hf; exact hf
    refine AOpsL.call (first := []) (cap := []) hT rfl rfl rfl fn22 rfl (ACalls.mono (put_no _ d n u h1 hf2.1 hf2.2) ?_)
    rintro x σ1 ⟨rfl, rfl⟩
    repeat (first | (with_reducible first | refine AW.seq ?_ | refine AW.block ?_ | refine AW.skip ?_ | refine AW.ret ?_ | refine AW.exit ?_ | refine AW.reg hT ?_) | ((with_reducible refine AW.cond_true ?_ ?_); · rfl) | ((with_reducible refine AW.cond_false ?_ ?_); · rfl) | simp (maxSteps := 3000000) (maxDischargeDepth := 12) only [seval,push_cast,appendX,Try.results107,LayO,gtp,Heap.lt gtp,↓dnl,↓dncl,↓dnlf])
    refine ⟨by simp [layN, hf], p :: tOf d, ⟨d, rfl, hpd, ?_, by simp (maxSteps := 3000000) (maxDischargeDepth := 12) only [push_cast, appendX, Nat.reduceAdd, Nat.reduceEqDiff, Nat.reduceLT, Nat.reduceLeDiff, reduceIte, reduceCtorEq, layN, LayO, hf, gtp, Heap.lt gtp, ↓dnl, ↓dncl, ↓dnlf]⟩, by repeat (first | exact Ext.refl _ _ | assumption | refine Ext.push ?_ _ | ((refine Ext.set ?_ ?_ _); rotate_left; · (simp (maxSteps := 3000000) (maxDischargeDepth := 12) only [push_cast, appendX, Nat.reduceAdd, Nat.reduceEqDiff, Nat.reduceLT, Nat.reduceLeDiff, reduceIte, reduceCtorEq, gtp, Heap.lt gtp, ↓dnl, ↓dncl, ↓dnlf])) | ((refine Ext.then1 (by assumption) ?_ ?_); rotate_left; · (intro p hp _; first | assumption | exact List.mem_cons_of_mem _ hp | (cases hp; done) | (simp at hp; subst hp; simp)))), fun q hq hm => hm⟩
    simp only [layN, hf, if_false]
    exact hh.frame (X := [p]) (by repeat (first | exact Ext.refl _ _ | assumption | refine Ext.push ?_ _ | ((refine Ext.set ?_ ?_ _); rotate_left; · (simp (maxSteps := 3000000) (maxDischargeDepth := 12) only [push_cast, appendX, Nat.reduceAdd, Nat.reduceEqDiff, Nat.reduceLT, Nat.reduceLeDiff, reduceIte, reduceCtorEq, gtp, Heap.lt gtp, ↓dnl, ↓dncl, ↓dnlf])) | ((refine Ext.then1 (by assumption) ?_ ?_); rotate_left; · (intro p hp _; first | assumption | exact List.mem_cons_of_mem _ hp | (cases hp; done) | (simp at hp; subst hp; simp))))) (fun q hq hqp => by simp at hqp; subst hqp; exact hpd hq)
theorem lay_more (σ : Heap) (p : Nat) : ACalls Try.prog 106 [.ptr p 0 0 1] σ (fun x σ' => x = .sc (.bool false) ∧ σ' = σ) := by
  refine ACalls.code hT Try.func106 rfl ?_
  simp only [Try.ntmps106, List.length_cons, List.length_nil, Nat.reduceSub, Nat.reduceAdd, List.replicate, List.cons_append, List.nil_append]
  repeat (first | (with_reducible first | refine AW.seq ?_ | refine AW.block ?_ | refine AW.skip ?_ | refine AW.ret ?_ | refine AW.exit ?_ | refine AW.reg hT ?_) | ((with_reducible refine AW.cond_true ?_ ?_); · rfl) | ((with_reducible refine AW.cond_false ?_ ?_); · rfl) | simp (maxSteps := 3000000) (maxDischargeDepth := 12) only [seval,push_cast,appendX,Try.results106])
/-- A taker: what is left, and its error. -/
def TakO (r : Nat) : AObj := ⟨[[.ptr r 0 0 1]], 110, true⟩
def TakAt (σ : Heap) (p : Nat) (fp : List Nat) (s : List Int × Int) : Prop := ∃ r, fp = [p, r] ∧ p ≠ r ∧ Octs s.1 ∧ σ.get p = some (TakO r) ∧ σ.get r = some (ROb s.1 s.2)
def takN (s : List Int × Int) (n : Nat) (u : Int) : (List Int × Int) × Int := (((tk s.1 s.2 n true).1, (tk s.1 s.2 n true).2.1), num (tk s.1 s.2 n true).2.2)
theorem tak_num (σ : Heap) {p : Nat} {fp : List Nat} {s : List Int × Int} {n : Nat} {u : Int} (hA : TakAt σ p fp s) (h1 : 1 ≤ n) (h8 : n ≤ 8) :
    ACalls Try.prog 105 [.ptr p 0 0 1, .sc (.int .i64 n), .sc (.int .u64 u)] σ (fun x σ' => x = .sc (.int .u64 (takN s n u).2) ∧ ∃ fp', TakAt σ' p fp' (takN s n u).1 ∧ Grew σ σ' fp fp') := by
  obtain ⟨r, rfl, hpr, hoct, gtp, gtr⟩ := hA
  obtain ⟨l, e⟩ := s
  have hok : decide (1 ≤ (n : Int) ∧ (n : Int) ≤ 8) = true := by simp; omega
  have hcall := uint_ok σ (n : Int) gtr hoct
  rw [hok] at hcall
  refine ACalls.code hT Try.func105 rfl ?_
  simp only [Try.ntmps105, List.length_cons, List.length_nil, Nat.reduceSub, Nat.reduceAdd, List.replicate, List.cons_append, List.nil_append]
  repeat (first | (with_reducible first | refine AW.seq ?_ | refine AW.block ?_ | refine AW.skip ?_ | refine AW.ret ?_ | refine AW.exit ?_ | refine AW.reg hT ?_) | ((with_reducible refine AW.cond_true ?_ ?_); · rfl) | ((with_reducible refine AW.cond_false ?_ ?_); · rfl) | simp (maxSteps := 3000000) (maxDischargeDepth := 12) only [seval,push_cast,appendX,Try.results105,TakO,gtp,Heap.lt gtp,gtr,Heap.lt gtr])
  refine AOpsL.call (first := []) (cap := []) hT rfl rfl rfl fn37 rfl (ACalls.mono (hcall) ?_)
  rintro x σ1 ⟨rfl, gt1, xt1⟩
  repeat (first | (with_reducible first | refine AW.seq ?_ | refine AW.block ?_ | refine AW.skip ?_ | refine AW.ret ?_ | refine AW.exit ?_ | refine AW.reg hT ?_) | ((with_reducible refine AW.cond_true ?_ ?_); · rfl) | ((with_reducible refine AW.cond_false ?_ ?_); · rfl) | simp (maxSteps := 3000000) (maxDischargeDepth := 12) only [seval,push_cast,appendX,Try.results105,TakO,gtp,Heap.lt gtp,gtr,Heap.lt gtr,gt1,Heap.lt gt1,xt1.2,xt1.ltT,xt1.leT])
  refine ⟨rfl, [p, r], ⟨r, rfl, hpr, (tk_octs hoct _ _ _).1, by simp (maxSteps := 3000000) (maxDischargeDepth := 12) only [push_cast, appendX, Nat.reduceAdd, Nat.reduceEqDiff, Nat.reduceLT, Nat.reduceLeDiff, reduceIte, reduceCtorEq, TakO, hpr, gtp, Heap.lt gtp, gtr, Heap.lt gtr, gt1, Heap.lt gt1, xt1.2, xt1.ltT, xt1.leT], gt1⟩, xt1.mono (by simp), fun q _ h => h⟩
theorem tak_more (σ : Heap) {p : Nat} {fp : List Nat} {s : List Int × Int} (hA : TakAt σ p fp s) : ACalls Try.prog 104 [.ptr p 0 0 1] σ (fun x σ' => x = .sc (.bool (decide (0 < s.1.length))) ∧ σ' = σ) := by
  obtain ⟨r, rfl, hpr, hoct, gtp, gtr⟩ := hA
  refine ACalls.code hT Try.func104 rfl ?_
  simp only [Try.ntmps104, List.length_cons, List.length_nil, Nat.reduceSub, Nat.reduceAdd, List.replicate, List.cons_append, List.nil_append]
  repeat (first | (with_reducible first | refine AW.seq ?_ | refine AW.block ?_ | refine AW.skip ?_ | refine AW.ret ?_ | refine AW.exit ?_ | refine AW.reg hT ?_) | ((with_reducible refine AW.cond_true ?_ ?_); · rfl) | ((with_reducible refine AW.cond_false ?_ ?_); · rfl) | simp (maxSteps := 3000000) (maxDischargeDepth := 12) only [seval,push_cast,appendX,Try.results104,TakO,gtp,Heap.lt gtp,gtr,Heap.lt gtr])
  refine AOpsL.call (first := []) (cap := []) hT rfl rfl rfl fn36 rfl (ACalls.mono (left_ok _ gtr) ?_)
  rintro x σ1 ⟨rfl, rfl⟩
  repeat (first | (with_reducible first | refine AW.seq ?_ | refine AW.block ?_ | refine AW.skip ?_ | refine AW.ret ?_ | refine AW.exit ?_ | refine AW.reg hT ?_) | ((with_reducible refine AW.cond_true ?_ ?_); · rfl) | ((with_reducible refine AW.cond_false ?_ ?_); · rfl) | simp (maxSteps := 3000000) (maxDischargeDepth := 12) only [seval,push_cast,appendX,Try.results104,TakO,gtp,Heap.lt gtp,gtr,Heap.lt gtr])
  simp
/-- A form: its type, its methods, and what they do. -/
structure Form where
  ty : TypeId
  fnum : FuncId
  fmore : FuncId
  S : Type
  At : Heap → Nat → List Nat → S → Prop
  num : S → Nat → Int → S × Int
  more : S → Bool
  fits : S → Nat → Prop
  mnum : Meth Try.prog ty "viaduct/body.num" fnum
  mmore : Meth Try.prog ty "viaduct/body.more" fmore
  frame : ∀ {σ σ' : Heap} {p : Nat} {fp X : List Nat} {s : S}, At σ p fp s → Ext X σ σ' → (∀ q ∈ fp, q ∉ X) → At σ' p fp s
  lt : ∀ {σ : Heap} {p : Nat} {fp : List Nat} {s : S}, At σ p fp s → ∀ q ∈ fp, q < σ.n
  tys : ∀ {σ : Heap} {p : Nat} {fp : List Nat} {s : S}, At σ p fp s → ∀ q ∈ fp, ∃ o, σ.get q = some o ∧ o.e ≠ 3 ∧ o.e ≠ 77 ∧ o.e ≠ 115
  numOk : ∀ (σ : Heap) (p : Nat) (fp : List Nat) (s : S) (k n : Nat) (u : Int), At σ p fp s → fits s (k + 1) → 1 ≤ n → n ≤ 8 → 0 ≤ u → ACalls Try.prog fnum [.ptr p 0 0 1, .sc (.int .i64 n), .sc (.int .u64 u)] σ (fun x σ' => x = .sc (.int .u64 (num s n u).2) ∧ ∃ fp', At σ' p fp' (num s n u).1 ∧ Grew σ σ' fp fp')
  numB : ∀ (σ : Heap) (p : Nat) (fp : List Nat) (s : S) (n : Nat) (u : Int), At σ p fp s → n < 8 → 0 ≤ u → 0 ≤ (num s n u).2 ∧ (num s n u).2 < 256 ^ n
  moreOk : ∀ (σ : Heap) (p : Nat) (fp : List Nat) (s : S), At σ p fp s → ACalls Try.prog fmore [.ptr p 0 0 1] σ (fun x σ' => x = .sc (.bool (more s)) ∧ σ' = σ)
  fitsN : ∀ (s : S) (k n : Nat) (u : Int), n ≤ 8 → fits s (k + 1) → fits (num s n u).1 k
  fitsS : ∀ (s : S) (k : Nat), fits s (k + 1) → fits s k
def layF : Form where
  ty := 119
  fnum := 107
  fmore := 106
  S := List Int × Bool
  At := LayAt
  num := layN
  more := fun _ => false
  fits := fun s k => s.1.length + 8 * k ≤ 1000000
  mnum := fun v args w => by kernel_rfl
  mmore := fun v args w => by kernel_rfl
  frame := fun ⟨d, h1, h2, h3, h4⟩ hx hd => ⟨d, h1, h2, h3.frame hx (fun q hq => hd q (by rw [h1]; exact List.mem_cons_of_mem _ hq)), hx.get h4 (hd _ (by rw [h1]; exact List.mem_cons_self ..))⟩
  lt := fun ⟨d, h1, h2, h3, h4⟩ q hq => by
    rw [h1] at hq
    rcases List.mem_cons.1 hq with rfl | hq
    · exact Heap.lt h4
    · exact h3.lt q hq
  tys := fun ⟨d, h1, h2, h3, h4⟩ q hq => by
    rw [h1] at hq
    rcases List.mem_cons.1 hq with rfl | hq
    · exact ⟨_, h4, by simp [LayO], by simp [LayO], by simp [LayO]⟩
    · rcases h3 with ⟨rfl, _⟩ | ⟨t, full, rfl, hg, _⟩
      · simp [tOf] at hq
      · simp [tOf] at hq; subst hq; exact ⟨_, hg, by simp, by simp, by simp⟩
  numOk := fun σ p fp s k n u hA hf h1 h8 h0 => lay_num σ hA (by have hf' : s.1.length + 8 * (k + 1) ≤ 1000000 := hf; omega) h1 h8 h0
  numB := fun σ p fp s n u _ h8 h0 => by
    unfold layN
    split
    · rename_i h; exact ⟨h0, h h8⟩
    · exact ⟨Int.le_refl _, pow_pos256 n⟩
  moreOk := fun σ p fp s _ => lay_more σ p
  fitsN := fun s k n u h8 hf => by
    unfold layN
    split
    · simp [digits_length] at hf ⊢; omega
    · simp at hf ⊢; omega
  fitsS := fun s k hf => by
    have hf' : s.1.length + 8 * (k + 1) ≤ 1000000 := hf
    show s.1.length + 8 * k ≤ 1000000
    omega
def takF : Form where
  ty := 108
  fnum := 105
  fmore := 104
  S := List Int × Int
  At := TakAt
  num := takN
  more := fun s => decide (0 < s.1.length)
  fits := fun _ _ => True
  mnum := fun v args w => by kernel_rfl
  mmore := fun v args w => by kernel_rfl
  frame := fun ⟨r, h1, h2, h3, h4, h5⟩ hx hd => ⟨r, h1, h2, h3, hx.get h4 (hd _ (by rw [h1]; simp)), hx.get h5 (hd _ (by rw [h1]; simp))⟩
  lt := fun ⟨r, h1, h2, h3, h4, h5⟩ q hq => by
    rw [h1] at hq
    simp at hq
    rcases hq with rfl | rfl
    · exact Heap.lt h4
    · exact Heap.lt h5
  tys := fun ⟨r, h1, h2, h3, h4, h5⟩ q hq => by
    rw [h1] at hq
    simp at hq
    rcases hq with rfl | rfl
    · exact ⟨_, h4, by simp [TakO], by simp [TakO], by simp [TakO]⟩
    · exact ⟨_, h5, by simp [ROb], by simp [ROb], by simp [ROb]⟩
  numOk := fun σ p fp s k n u hA _ h1 h8 _ => tak_num σ hA h1 h8
  numB := fun σ p fp s n u ⟨r, h1, h2, h3, h4, h5⟩ h8 h0 => by
    have ho := (tk_octs h3 s.2 n true).2
    have hb := num_bound ho
    refine ⟨hb.1, Int.lt_of_lt_of_le hb.2 ?_⟩
    rcases tk_len s.1 s.2 n true (by simp) with h | ⟨_, h⟩
    · rw [h]; have := pow_pos256 n; simp; omega
    · have : (tk s.1 s.2 n true).2.2.length = n := by omega
      rw [this]; exact Int.le_refl _
  moreOk := fun σ p fp s hA => tak_more σ hA
  fitsN := fun _ _ _ _ _ _ => trivial
  fitsS := fun _ _ _ => trivial
def GonO (F : Form) (p : Nat) (ok : Bool) : AObj := ⟨[[.ifc F.ty (.ptr p 0 0 1), .sc (.bool ok)]], 115, true⟩
/-- A form, and whether all was right so far. -/
structure GS (F : Form) where
  ok : Bool
  s : F.S
def GonAt (F : Form) (σ : Heap) (g p : Nat) (fp : List Nat) (z : GS F) : Prop := σ.get g = some (GonO F p z.ok) ∧ g ∉ fp ∧ F.At σ p fp z.s
/-- Behind a step: of the old objects just Y, g and fp were touched. -/
def GonTo (F : Form) (σ σ' : Heap) (g p : Nat) (fp Y : List Nat) (z : GS F) : Prop := ∃ fp', GonAt F σ' g p fp' z ∧ Ext (Y ++ g :: fp) σ σ' ∧ ∀ q, q < σ.n → q ∈ fp' → q ∈ fp
def GS.fix {F : Form} (z : GS F) (n : Nat) (u : Int) : GS F := ⟨z.ok && ((F.num z.s n u).2 == u), (F.num z.s n u).1⟩
def GS.node {F : Form} (z : GS F) (v : Int) : GS F × Int := if v < 0 ∨ 16 ≤ v then (⟨false, z.s⟩, v) else (⟨z.ok && (decide (0 ≤ (F.num z.s 4 (167772160 + v)).2 - 167772160) && decide ((F.num z.s 4 (167772160 + v)).2 - 167772160 < 16)), (F.num z.s 4 (167772160 + v)).1⟩, (F.num z.s 4 (167772160 + v)).2 - 167772160)
def GS.int {F : Form} (z : GS F) (n : Nat) (v top : Int) : GS F × Int := if v < 0 then (⟨false, z.s⟩, v) else (⟨z.ok && decide ((F.num z.s n v).2 ≤ top), (F.num z.s n v).1⟩, (F.num z.s n v).2)
def GS.group {F : Form} (z : GS F) (v : Int) : GS F × Int := (⟨z.ok, (F.num z.s 4 v).1⟩, (F.num z.s 4 v).2)
def GS.hop {F : Form} (z : GS F) (v : Int) : GS F × Int := ((((z.fix 2 264).node v).1).fix 2 8192, ((z.fix 2 264).node v).2)
theorem wrap_u32 {n : Int} (h0 : 0 ≤ n) (h1 : n < 4294967296) : IntKind.u32.wrap n = n := by
  simp only [IntKind.wrap, IntKind.bits, IntKind.signed]
  simp only [Bool.false_and, Bool.false_eq_true, if_false]
  exact Int.emod_eq_of_lt h0 (by simpa using h1)
theorem CellAt.put_self {ob : AObj} {i j m : Nat} {x : DV} (hc : CellAt ob i j m x) : ob.put i j x = ob := by
  obtain ⟨k1, k2, el, k3, k4⟩ := hc
  have hd : ob.els.getD i [] = el := by simp [List.getD, k3]
  obtain ⟨a, b, c⟩ := ob
  simp only [AObj.put, hd, AObj.mk.injEq, and_self, and_true]
  have e1 : el.set j x = el := by
    apply List.ext_getElem? ; intro q; rw [List.getElem?_set]; split
    · rename_i h; subst h; rw [if_pos (List.getElem?_eq_some_iff.1 k4).1, k4]
    · rfl
  rw [e1]
  apply List.ext_getElem?; intro q; rw [List.getElem?_set]; split
  · rename_i h; subst h; rw [if_pos (List.getElem?_eq_some_iff.1 k3).1, k3]
  · rfl
theorem GS.fits_node {F : Form} (z : GS F) {k : Nat} (v : Int) (hf : F.fits z.s (k + 1)) : F.fits (z.node v).1.s k := by
  unfold GS.node
  split
  · exact F.fitsS _ _ hf
  · exact F.fitsN _ _ _ _ (by omega) hf
theorem GS.fits_int {F : Form} (z : GS F) {k n : Nat} (v top : Int) (h8 : n ≤ 8) (hf : F.fits z.s (k + 1)) : F.fits (z.int n v top).1.s k := by
  unfold GS.int
  split
  · exact F.fitsS _ _ hf
  · exact F.fitsN _ _ _ _ h8 hf
theorem GonAt.lt {F : Form} {σ : Heap} {g p : Nat} {fp : List Nat} {z : GS F} (h : GonAt F σ g p fp z) : g < σ.n ∧ ∀ q ∈ fp, q < σ.n := ⟨Heap.lt h.1, F.lt h.2.2⟩
theorem GonAt.frame {F : Form} {σ σ' : Heap} {g p : Nat} {fp X : List Nat} {z : GS F} (h : GonAt F σ g p fp z) (hx : Ext X σ σ') (hg : g ∉ X) (hf : ∀ q ∈ fp, q ∉ X) : GonAt F σ' g p fp z := ⟨hx.get h.1 hg, h.2.1, F.frame h.2.2 hx hf⟩
theorem GonAt.set {F : Form} {σ : Heap} {g p : Nat} {fp : List Nat} {z : GS F} (h : GonAt F σ g p fp z) (ok : Bool) : GonAt F (σ.set g (GonO F p ok)) g p fp ⟨ok, z.s⟩ :=
  ⟨Heap.get_set (Heap.lt h.1), h.2.1, F.frame h.2.2 (X := [g]) ((Ext.refl _ _).set (.inr (by simp)) _) (fun q hq hm => by simp at hm; subst hm; exact h.2.1 hq)⟩
theorem needs_ok (F : Form) (σ : Heap) {g p : Nat} {ok : Bool} (b : Bool) (gtg : σ.get g = some (GonO F p ok)) : ACalls Try.prog 84 [.ptr g 0 0 1, .sc (.bool b)] σ (fun x σ' => x = .tup [] ∧ σ' = σ.set g (GonO F p (ok && b))) := by
  refine ACalls.code hT Try.func84 rfl ?_
  simp only [Try.ntmps84, List.length_cons, List.length_nil, Nat.reduceSub, Nat.reduceAdd, List.replicate, List.cons_append, List.nil_append]
  cases ok
  · repeat (first | (with_reducible first | refine AW.seq ?_ | refine AW.block ?_ | refine AW.skip ?_ | refine AW.ret ?_ | refine AW.exit ?_ | refine AW.reg hT ?_) | ((with_reducible refine AW.cond_true ?_ ?_); · rfl) | ((with_reducible refine AW.cond_false ?_ ?_); · rfl) | simp (maxSteps := 3000000) (maxDischargeDepth := 12) only [seval,push_cast,appendX,Try.results84,GonO,gtg,Heap.lt gtg])
  · repeat (first | (with_reducible first | refine AW.seq ?_ | refine AW.block ?_ | refine AW.skip ?_ | refine AW.ret ?_ | refine AW.exit ?_ | refine AW.reg hT ?_) | ((with_reducible refine AW.cond_true ?_ ?_); · rfl) | ((with_reducible refine AW.cond_false ?_ ?_); · rfl) | simp (maxSteps := 3000000) (maxDischargeDepth := 12) only [seval,push_cast,appendX,Try.results84,GonO,gtg,Heap.lt gtg])
/-- A call of num, by a gone. -/
theorem gnum_ok (F : Form) (σ : Heap) {g p : Nat} {fp : List Nat} {z : GS F} {k n : Nat} {u : Int} (hA : GonAt F σ g p fp z) (hf : F.fits z.s (k + 1)) (h1 : 1 ≤ n) (h8 : n ≤ 8) (h0 : 0 ≤ u) :
    ACalls Try.prog F.fnum [.ptr p 0 0 1, .sc (.int .i64 n), .sc (.int .u64 u)] σ (fun x σ' => x = .sc (.int .u64 (F.num z.s n u).2) ∧ ∃ fp', GonAt F σ' g p fp' ⟨z.ok, (F.num z.s n u).1⟩ ∧ Ext fp σ σ' ∧ ∀ q, q < σ.n → q ∈ fp' → q ∈ fp) :=
  (F.numOk σ p fp z.s k n u hA.2.2 hf h1 h8 h0).mono fun x σ' ⟨h, fp', h2, h3, h4⟩ => ⟨h, fp', ⟨h3.get hA.1 hA.2.1, fun hm => hA.2.1 (h4 g hA.lt.1 hm), h2⟩, h3, h4⟩
theorem fixed_ok (F : Form) (σ : Heap) {g p : Nat} {fp : List Nat} {z : GS F} {k n : Nat} {u : Int} (hA : GonAt F σ g p fp z) (hf : F.fits z.s (k + 1)) (h1 : 1 ≤ n) (h8 : n ≤ 8) (h0 : 0 ≤ u) :
    ACalls Try.prog 82 [.ptr g 0 0 1, .sc (.int .i64 n), .sc (.int .u64 u)] σ (fun x σ' => x = .tup [] ∧ GonTo F σ σ' g p fp [] (z.fix n u)) := by
  have gtg := hA.1
  refine ACalls.code hT Try.func82 rfl ?_
  simp only [Try.ntmps82, List.length_cons, List.length_nil, Nat.reduceSub, Nat.reduceAdd, List.replicate, List.cons_append, List.nil_append]
  repeat (first | (with_reducible first | refine AW.seq ?_ | refine AW.block ?_ | refine AW.skip ?_ | refine AW.ret ?_ | refine AW.exit ?_ | refine AW.reg hT ?_) | ((with_reducible refine AW.cond_true ?_ ?_); · rfl) | ((with_reducible refine AW.cond_false ?_ ?_); · rfl) | simp (maxSteps := 3000000) (maxDischargeDepth := 12) only [seval,push_cast,appendX,Try.results82,GonO,gtg,Heap.lt gtg])
  refine AOpsL.rule hT rfl (AOp.invoke rfl rfl (F.mnum) rfl (ACalls.mono (gnum_ok F σ hA hf h1 h8 h0) ?_))
  rintro x σ1 ⟨rfl, fp1, hA1, xt1, hfp1⟩
  repeat (first | (with_reducible first | refine AW.seq ?_ | refine AW.block ?_ | refine AW.skip ?_ | refine AW.ret ?_ | refine AW.exit ?_ | refine AW.reg hT ?_) | ((with_reducible refine AW.cond_true ?_ ?_); · rfl) | ((with_reducible refine AW.cond_false ?_ ?_); · rfl) | simp (maxSteps := 3000000) (maxDischargeDepth := 12) only [seval,push_cast,appendX,Try.results82,gtg,Heap.lt gtg,xt1.2,xt1.ltT,xt1.leT])
  refine AOpsL.call (first := []) (cap := []) hT rfl rfl rfl fn84 rfl (ACalls.mono (needs_ok F σ1 _ hA1.1) ?_)
  rintro x σ2 ⟨rfl, rfl⟩
  repeat (first | (with_reducible first | refine AW.seq ?_ | refine AW.block ?_ | refine AW.skip ?_ | refine AW.ret ?_ | refine AW.exit ?_ | refine AW.reg hT ?_) | ((with_reducible refine AW.cond_true ?_ ?_); · rfl) | ((with_reducible refine AW.cond_false ?_ ?_); · rfl) | simp (maxSteps := 3000000) (maxDischargeDepth := 12) only [seval,push_cast,appendX,Try.results82,gtg,Heap.lt gtg,xt1.2,xt1.ltT,xt1.leT])
  exact ⟨fp1, hA1.set _, by have := xt1.mono (Y := g :: fp) (fun q hq => List.mem_cons_of_mem _ hq); exact this.set (.inr (by simp)) _, hfp1⟩
theorem node_ok (F : Form) (σ : Heap) {g p : Nat} {fp : List Nat} {z : GS F} {k : Nat} {t i j m : Nat} {ob : AObj} {v : Int} (hA : GonAt F σ g p fp z) (hf : F.fits z.s (k + 1)) (htg : t ≠ g) (htf : t ∉ fp) (gtt : σ.get t = some ob) (hc : CellAt ob i j m (.sc (.int .i64 v))) :
    ACalls Try.prog 81 [.ptr g 0 0 1, .ptr t i j m] σ (fun x σ' => x = .tup [] ∧ σ'.get t = some (ob.put i j (.sc (.int .i64 (z.node v).2))) ∧ GonTo F σ σ' g p fp [t] (z.node v).1) := by
  have gtg := hA.1
  have htl := Heap.lt gtt
  have dnl := hc.load (ty := 3) gtt rfl rfl
  have hput := hc.put_self
  refine ACalls.code hT Try.func81 rfl ?_
  simp only [Try.ntmps81, List.length_cons, List.length_nil, Nat.reduceSub, Nat.reduceAdd, List.replicate, List.cons_append, List.nil_append]
  by_cases hv : v < 0 ∨ 16 ≤ v
  · have hz : z.node v = (⟨false, z.s⟩, v) := by simp only [GS.node, hv, if_true]
    rw [hz, hput]
    have hgo : ACalls Try.prog 84 [.ptr g 0 0 1, .sc (.bool false)] σ (fun x σ' => x = .tup [] ∧ (σ'.get t = some ob ∧ GonTo F σ σ' g p fp [t] ⟨false, z.s⟩)) := by
      refine (needs_ok F σ false hA.1).mono ?_
      rintro x σ2 ⟨rfl, rfl⟩
      rw [Bool.and_false]
      exact ⟨rfl, by simp (maxSteps := 3000000) (maxDischargeDepth := 12) only [push_cast, appendX, Nat.reduceAdd, Nat.reduceEqDiff, Nat.reduceLT, Nat.reduceLeDiff, reduceIte, reduceCtorEq, htg, gtt, Heap.lt gtt, gtg, Heap.lt gtg, ↓dnl], fp, hA.set _, (Ext.refl _ _).set (.inr (by simp)) _, fun q _ h => h⟩
    by_cases h0 : v < 0
    · have dc1 : decide (v < 0) = true := by simpa using h0
      repeat (first | (with_reducible first | refine AW.seq ?_ | refine AW.block ?_ | refine AW.skip ?_ | refine AW.ret ?_ | refine AW.exit ?_ | refine AW.reg hT ?_) | ((with_reducible refine AW.cond_true ?_ ?_); · rfl) | ((with_reducible refine AW.cond_false ?_ ?_); · rfl) | simp (maxSteps := 3000000) (maxDischargeDepth := 12) only [seval,push_cast,appendX,Try.results81,gtt,Heap.lt gtt,gtg,Heap.lt gtg,↓dnl,dc1])
      refine AOpsL.call (first := []) (cap := []) hT rfl rfl rfl fn84 rfl (ACalls.mono (hgo) ?_)
      rintro x σ2 ⟨rfl, hx⟩
      repeat (first | (with_reducible first | refine AW.seq ?_ | refine AW.block ?_ | refine AW.skip ?_ | refine AW.ret ?_ | refine AW.exit ?_ | refine AW.reg hT ?_) | ((with_reducible refine AW.cond_true ?_ ?_); · rfl) | ((with_reducible refine AW.cond_false ?_ ?_); · rfl) | simp (maxSteps := 3000000) (maxDischargeDepth := 12) only [seval,push_cast,appendX,Try.results81,gtt,Heap.lt gtt,gtg,Heap.lt gtg,↓dnl,dc1])
      exact hx
    · have dc1 : decide (v < 0) = false := by simpa using h0
      have dc2 : decide (16 ≤ v) = true := by simp; omega
      repeat (first | (with_reducible first | refine AW.seq ?_ | refine AW.block ?_ | refine AW.skip ?_ | refine AW.ret ?_ | refine AW.exit ?_ | refine AW.reg hT ?_) | ((with_reducible refine AW.cond_true ?_ ?_); · rfl) | ((with_reducible refine AW.cond_false ?_ ?_); · rfl) | simp (maxSteps := 3000000) (maxDischargeDepth := 12) only [seval,push_cast,appendX,Try.results81,gtt,Heap.lt gtt,gtg,Heap.lt gtg,↓dnl,dc1,dc2])
      refine AOpsL.call (first := []) (cap := []) hT rfl rfl rfl fn84 rfl (ACalls.mono (hgo) ?_)
      rintro x σ2 ⟨rfl, hx⟩
      repeat (first | (with_reducible first | refine AW.seq ?_ | refine AW.block ?_ | refine AW.skip ?_ | refine AW.ret ?_ | refine AW.exit ?_ | refine AW.reg hT ?_) | ((with_reducible refine AW.cond_true ?_ ?_); · rfl) | ((with_reducible refine AW.cond_false ?_ ?_); · rfl) | simp (maxSteps := 3000000) (maxDischargeDepth := 12) only [seval,push_cast,appendX,Try.results81,gtt,Heap.lt gtt,gtg,Heap.lt gtg,↓dnl,dc1,dc2])
      exact hx
  · have dc1 : decide (v < 0) = false := by simp; omega
    have dc2 : decide (16 ≤ v) = false := by simp; omega
    have dcw : IntKind.u64.wrap v = v := wrap_u64 (by omega) (by omega)
    have dcw2 : IntKind.u64.wrap (167772160 + v) = 167772160 + v := wrap_u64 (by omega) (by omega)
    have hB := F.numB σ p fp z.s 4 (167772160 + v) hA.2.2 (by omega) (by omega)
    have hz : z.node v = (⟨z.ok && (decide (0 ≤ (F.num z.s 4 (167772160 + v)).2 - 167772160) && decide ((F.num z.s 4 (167772160 + v)).2 - 167772160 < 16)), (F.num z.s 4 (167772160 + v)).1⟩, (F.num z.s 4 (167772160 + v)).2 - 167772160) := by simp only [GS.node, hv, if_false]
    have hn := gnum_ok F σ (k := k) (n := 4) (u := 167772160 + v) hA hf (by omega) (by omega) (by omega)
    rw [hz]
    revert hB hn
    generalize F.num z.s 4 (167772160 + v) = R
    obtain ⟨s1, r⟩ := R
    intro hB hn
    have dcw3 : IntKind.i64.wrap r = r := wrap_i64 (by simp at hB; omega) (by simp at hB; omega)
    have dcw4 : IntKind.i64.wrap (r - 167772160) = r - 167772160 := wrap_i64 (by simp at hB; omega) (by simp at hB; omega)
    repeat (first | (with_reducible first | refine AW.seq ?_ | refine AW.block ?_ | refine AW.skip ?_ | refine AW.ret ?_ | refine AW.exit ?_ | refine AW.reg hT ?_) | ((with_reducible show AW _ (.region 2 _ _) _ _ _); (with_reducible refine AW.drawn (id := 2) hT [0,1,2,3,4,5,6,7,8,9,10,11,12,13,14,15,16] [[],[],[1],[1,2],[1,2,3],[],[5],[5,6],[5,6,7],[5,6,7,8],[1,2,3,4],[1,2,3,4,10],[1,2,3,4,5,6,7,8,9,10,11],[1,2,3,4,5,6,7,8,9,10,11,12],[1,2,3,4,5,6,7,8,9,10,11,12,13],[0,1,2,3,4,5,6,7,8,9,10,11,12,13,14],[0,1,2,3,4,5,6,7,8,9,10,11,12,13,14,15]] mix (by kernel_rfl) ?_)) | ((with_reducible show DLeft _ _ _ _ (_ :: _) _ _ _ _); (with_reducible apply DLeft.step hT); (case hoi => ((simp only [List.getElem?_toArray,List.getElem?_cons_zero,List.getElem?_cons_succ]); with_reducible rfl)); (case hg => rfl); (case hk => rfl); (case hr => ((try simp (maxSteps := 3000000) (maxDischargeDepth := 12) only [seval,push_cast,appendX,Try.results81,GonO,gtt,Heap.lt gtt,gtg,Heap.lt gtg,↓dnl,dc1,dc2,dcw,dcw2,dcw3,dcw4]); with_reducible rfl))) | ((with_reducible refine AW.cond_true ?_ ?_); · rfl) | ((with_reducible refine AW.cond_false ?_ ?_); · rfl) | simp (maxSteps := 3000000) (maxDischargeDepth := 12) only [seval,push_cast,appendX,Try.results81,GonO,gtt,Heap.lt gtt,gtg,Heap.lt gtg,↓dnl,dc1,dc2,dcw,dcw2,dcw3,dcw4])
    ((apply DLeft.invoke); (case hoi => ((simp only [List.getElem?_toArray, List.getElem?_cons_zero, List.getElem?_cons_succ]); with_reducible rfl)); (case hg => rfl); (case ho => rfl); (case hc => rfl); (case hm => exact F.mnum); (case has => rfl)); refine ACalls.mono (hn) ?_
    rintro x σ1 ⟨rfl, fp1, hA1, xt1, hfp1⟩
    have gt1 : σ1.get t = some ob := xt1.get gtt htf
    have htf1 : t ∉ fp1 := fun hm => htf (hfp1 t htl hm)
    have dns := hc.store (y := .sc (.int .i64 (r - 167772160))) (ty := 3) gt1 rfl rfl rfl rfl
    have hc2 := hc.put (.sc (.int .i64 (r - 167772160)))
    have hlt1 := Heap.lt gt1
    have hA2 : GonAt F (σ1.set t (ob.put i j (.sc (.int .i64 (r - 167772160))))) g p fp1 ⟨z.ok, s1⟩ := hA1.frame (X := [t]) ((Ext.refl _ _).set (.inr (by simp)) _) (by simp; exact Ne.symm htg) (fun q hq hm => by simp at hm; subst hm; exact htf1 hq)
    have hg2 : (σ1.set t (ob.put i j (.sc (.int .i64 (r - 167772160))))).get t = some (ob.put i j (.sc (.int .i64 (r - 167772160)))) := Heap.get_set hlt1
    have dnl2 := hc2.load (ty := 3) hg2 rfl rfl
    have hx2 : Ext (t :: g :: fp) σ (σ1.set t (ob.put i j (.sc (.int .i64 (r - 167772160))))) := (xt1.mono (by simp; intro q hq; exact .inr (.inr hq))).set (.inr (by simp)) _
    have hfin : ∀ b : Bool, ACalls Try.prog 84 [.ptr g 0 0 1, .sc (.bool b)] (σ1.set t (ob.put i j (.sc (.int .i64 (r - 167772160))))) (fun x σ' => x = .tup [] ∧ (σ'.get t = some (ob.put i j (.sc (.int .i64 (r - 167772160)))) ∧ GonTo F σ σ' g p fp [t] ⟨z.ok && b, s1⟩)) := fun b => by
      refine (needs_ok F _ b hA2.1).mono ?_
      rintro x σ3 ⟨rfl, rfl⟩
      exact ⟨rfl, by simp (maxSteps := 3000000) (maxDischargeDepth := 12) only [push_cast, appendX, Nat.reduceAdd, Nat.reduceEqDiff, Nat.reduceLT, Nat.reduceLeDiff, reduceIte, reduceCtorEq, htg, hlt1, gt1, gtt, Heap.lt gtt, gtg, Heap.lt gtg, ↓dnl, dc1, dc2, dcw, dcw2, dcw3, dcw4, xt1.2, xt1.ltT, xt1.leT, gt1, Heap.lt gt1, ↓dns, ↓dnl2], fp1, hA2.set _, hx2.set (.inr (by simp)) _, hfp1⟩
    by_cases h0 : 0 ≤ r - 167772160
    · have dcd : decide (0 ≤ r - 167772160) = true := by simpa using h0
      rw [dcd, Bool.true_and]
      repeat (first | (with_reducible first | refine AW.seq ?_ | refine AW.block ?_ | refine AW.skip ?_ | refine AW.ret ?_ | refine AW.exit ?_ | refine AW.reg hT ?_) | ((with_reducible show AW _ (.region 2 _ _) _ _ _); (with_reducible refine AW.drawn (id := 2) hT [0,1,2,3,4,5,6,7,8,9,10,11,12,13,14,15,16] [[],[],[1],[1,2],[1,2,3],[],[5],[5,6],[5,6,7],[5,6,7,8],[1,2,3,4],[1,2,3,4,10],[1,2,3,4,5,6,7,8,9,10,11],[1,2,3,4,5,6,7,8,9,10,11,12],[1,2,3,4,5,6,7,8,9,10,11,12,13],[0,1,2,3,4,5,6,7,8,9,10,11,12,13,14],[0,1,2,3,4,5,6,7,8,9,10,11,12,13,14,15]] mix (by kernel_rfl) ?_)) | ((with_reducible show DLeft _ _ _ _ (_ :: _) _ _ _ _); (with_reducible apply DLeft.step hT); (case hoi => ((simp only [List.getElem?_toArray,List.getElem?_cons_zero,List.getElem?_cons_succ]); with_reducible rfl)); (case hg => rfl); (case hk => rfl); (case hr => ((try simp (maxSteps := 3000000) (maxDischargeDepth := 12) only [seval,push_cast,appendX,Try.results81,gtt,Heap.lt gtt,gtg,Heap.lt gtg,↓dnl,dc1,dc2,dcw,dcw2,dcw3,dcw4,xt1.2,xt1.ltT,xt1.leT,gt1,Heap.lt gt1,↓dns,↓dnl2,dcd]); with_reducible rfl))) | ((with_reducible refine AW.cond_true ?_ ?_); · rfl) | ((with_reducible refine AW.cond_false ?_ ?_); · rfl) | simp (maxSteps := 3000000) (maxDischargeDepth := 12) only [seval,push_cast,appendX,Try.results81,gtt,Heap.lt gtt,gtg,Heap.lt gtg,↓dnl,dc1,dc2,dcw,dcw2,dcw3,dcw4,xt1.2,xt1.ltT,xt1.leT,gt1,Heap.lt gt1,↓dns,↓dnl2,dcd])
      refine AOpsL.call (first := []) (cap := []) hT rfl rfl rfl fn84 rfl (ACalls.mono (hfin (decide (r - 167772160 < 16))) ?_)
      rintro x σ3 ⟨rfl, hx⟩
      repeat (first | (with_reducible first | refine AW.seq ?_ | refine AW.block ?_ | refine AW.skip ?_ | refine AW.ret ?_ | refine AW.exit ?_ | refine AW.reg hT ?_) | ((with_reducible show AW _ (.region 2 _ _) _ _ _); (with_reducible refine AW.drawn (id := 2) hT [0,1,2,3,4,5,6,7,8,9,10,11,12,13,14,15,16] [[],[],[1],[1,2],[1,2,3],[],[5],[5,6],[5,6,7],[5,6,7,8],[1,2,3,4],[1,2,3,4,10],[1,2,3,4,5,6,7,8,9,10,11],[1,2,3,4,5,6,7,8,9,10,11,12],[1,2,3,4,5,6,7,8,9,10,11,12,13],[0,1,2,3,4,5,6,7,8,9,10,11,12,13,14],[0,1,2,3,4,5,6,7,8,9,10,11,12,13,14,15]] mix (by kernel_rfl) ?_)) | ((with_reducible show DLeft _ _ _ _ (_ :: _) _ _ _ _); (with_reducible apply DLeft.step hT); (case hoi => ((simp only [List.getElem?_toArray,List.getElem?_cons_zero,List.getElem?_cons_succ]); with_reducible rfl)); (case hg => rfl); (case hk => rfl); (case hr => ((try simp (maxSteps := 3000000) (maxDischargeDepth := 12) only [seval,push_cast,appendX,Try.results81,gtt,Heap.lt gtt,gtg,Heap.lt gtg,↓dnl,dc1,dc2,dcw,dcw2,dcw3,dcw4,xt1.2,xt1.ltT,xt1.leT,gt1,Heap.lt gt1,↓dns,↓dnl2,dcd]); with_reducible rfl))) | ((with_reducible refine AW.cond_true ?_ ?_); · rfl) | ((with_reducible refine AW.cond_false ?_ ?_); · rfl) | simp (maxSteps := 3000000) (maxDischargeDepth := 12) only [seval,push_cast,appendX,Try.results81,gtt,Heap.lt gtt,gtg,Heap.lt gtg,↓dnl,dc1,dc2,dcw,dcw2,dcw3,dcw4,xt1.2,xt1.ltT,xt1.leT,gt1,Heap.lt gt1,↓dns,↓dnl2,dcd])
      exact hx
    · have dcd : decide (0 ≤ r - 167772160) = false := by simpa using h0
      rw [dcd, Bool.false_and]
      repeat (first | (with_reducible first | refine AW.seq ?_ | refine AW.block ?_ | refine AW.skip ?_ | refine AW.ret ?_ | refine AW.exit ?_ | refine AW.reg hT ?_) | ((with_reducible show AW _ (.region 2 _ _) _ _ _); (with_reducible refine AW.drawn (id := 2) hT [0,1,2,3,4,5,6,7,8,9,10,11,12,13,14,15,16] [[],[],[1],[1,2],[1,2,3],[],[5],[5,6],[5,6,7],[5,6,7,8],[1,2,3,4],[1,2,3,4,10],[1,2,3,4,5,6,7,8,9,10,11],[1,2,3,4,5,6,7,8,9,10,11,12],[1,2,3,4,5,6,7,8,9,10,11,12,13],[0,1,2,3,4,5,6,7,8,9,10,11,12,13,14],[0,1,2,3,4,5,6,7,8,9,10,11,12,13,14,15]] mix (by kernel_rfl) ?_)) | ((with_reducible show DLeft _ _ _ _ (_ :: _) _ _ _ _); (with_reducible apply DLeft.step hT); (case hoi => ((simp only [List.getElem?_toArray,List.getElem?_cons_zero,List.getElem?_cons_succ]); with_reducible rfl)); (case hg => rfl); (case hk => rfl); (case hr => ((try simp (maxSteps := 3000000) (maxDischargeDepth := 12) only [seval,push_cast,appendX,Try.results81,gtt,Heap.lt gtt,gtg,Heap.lt gtg,↓dnl,dc1,dc2,dcw,dcw2,dcw3,dcw4,xt1.2,xt1.ltT,xt1.leT,gt1,Heap.lt gt1,↓dns,↓dnl2,dcd]); with_reducible rfl))) | ((with_reducible refine AW.cond_true ?_ ?_); · rfl) | ((with_reducible refine AW.cond_false ?_ ?_); · rfl) | simp (maxSteps := 3000000) (maxDischargeDepth := 12) only [seval,push_cast,appendX,Try.results81,gtt,Heap.lt gtt,gtg,Heap.lt gtg,↓dnl,dc1,dc2,dcw,dcw2,dcw3,dcw4,xt1.2,xt1.ltT,xt1.leT,gt1,Heap.lt gt1,↓dns,↓dnl2,dcd])
      refine AOpsL.call (first := []) (cap := []) hT rfl rfl rfl fn84 rfl (ACalls.mono (hfin false) ?_)
      rintro x σ3 ⟨rfl, hx⟩
      repeat (first | (with_reducible first | refine AW.seq ?_ | refine AW.block ?_ | refine AW.skip ?_ | refine AW.ret ?_ | refine AW.exit ?_ | refine AW.reg hT ?_) | ((with_reducible show AW _ (.region 2 _ _) _ _ _); (with_reducible refine AW.drawn (id := 2) hT [0,1,2,3,4,5,6,7,8,9,10,11,12,13,14,15,16] [[],[],[1],[1,2],[1,2,3],[],[5],[5,6],[5,6,7],[5,6,7,8],[1,2,3,4],[1,2,3,4,10],[1,2,3,4,5,6,7,8,9,10,11],[1,2,3,4,5,6,7,8,9,10,11,12],[1,2,3,4,5,6,7,8,9,10,11,12,13],[0,1,2,3,4,5,6,7,8,9,10,11,12,13,14],[0,1,2,3,4,5,6,7,8,9,10,11,12,13,14,15]] mix (by kernel_rfl) ?_)) | ((with_reducible show DLeft _ _ _ _ (_ :: _) _ _ _ _); (with_reducible apply DLeft.step hT); (case hoi => ((simp only [List.getElem?_toArray,List.getElem?_cons_zero,List.getElem?_cons_succ]); with_reducible rfl)); (case hg => rfl); (case hk => rfl); (case hr => ((try simp (maxSteps := 3000000) (maxDischargeDepth := 12) only [seval,push_cast,appendX,Try.results81,gtt,Heap.lt gtt,gtg,Heap.lt gtg,↓dnl,dc1,dc2,dcw,dcw2,dcw3,dcw4,xt1.2,xt1.ltT,xt1.leT,gt1,Heap.lt gt1,↓dns,↓dnl2,dcd]); with_reducible rfl))) | ((with_reducible refine AW.cond_true ?_ ?_); · rfl) | ((with_reducible refine AW.cond_false ?_ ?_); · rfl) | simp (maxSteps := 3000000) (maxDischargeDepth := 12) only [seval,push_cast,appendX,Try.results81,gtt,Heap.lt gtt,gtg,Heap.lt gtg,↓dnl,dc1,dc2,dcw,dcw2,dcw3,dcw4,xt1.2,xt1.ltT,xt1.leT,gt1,Heap.lt gt1,↓dns,↓dnl2,dcd])
      simpa using hx
theorem int_ok (F : Form) (σ : Heap) {g p : Nat} {fp : List Nat} {z : GS F} {k n : Nat} {t i j m : Nat} {ob : AObj} {v top : Int} (hA : GonAt F σ g p fp z) (hf : F.fits z.s (k + 1)) (h1 : 1 ≤ n) (h4 : n ≤ 4) (hv9 : v ≤ 9223372036854775807) (htg : t ≠ g) (htf : t ∉ fp) (gtt : σ.get t = some ob) (hc : CellAt ob i j m (.sc (.int .i64 v))) :
    ACalls Try.prog 83 [.ptr g 0 0 1, .sc (.int .i64 n), .ptr t i j m, .sc (.int .i64 top)] σ (fun x σ' => x = .tup [] ∧ σ'.get t = some (ob.put i j (.sc (.int .i64 (z.int n v top).2))) ∧ GonTo F σ σ' g p fp [t] (z.int n v top).1) := by
  have gtg := hA.1
  have htl := Heap.lt gtt
  have dnl := hc.load (ty := 3) gtt rfl rfl
  have hput := hc.put_self
  refine ACalls.code hT Try.func83 rfl ?_
  simp only [Try.ntmps83, List.length_cons, List.length_nil, Nat.reduceSub, Nat.reduceAdd, List.replicate, List.cons_append, List.nil_append]
  by_cases hv : v < 0
  · have hz : z.int n v top = (⟨false, z.s⟩, v) := by simp only [GS.int, hv, if_true]
    rw [hz, hput]
    have hgo : ACalls Try.prog 84 [.ptr g 0 0 1, .sc (.bool false)] σ (fun x σ' => x = .tup [] ∧ (σ'.get t = some ob ∧ GonTo F σ σ' g p fp [t] ⟨false, z.s⟩)) := by
      refine (needs_ok F σ false hA.1).mono ?_
      rintro x σ2 ⟨rfl, rfl⟩
      rw [Bool.and_false]
      exact ⟨rfl, by simp (maxSteps := 3000000) (maxDischargeDepth := 12) only [push_cast, appendX, Nat.reduceAdd, Nat.reduceEqDiff, Nat.reduceLT, Nat.reduceLeDiff, reduceIte, reduceCtorEq, htg, gtt, Heap.lt gtt, gtg, Heap.lt gtg, ↓dnl], fp, hA.set _, (Ext.refl _ _).set (.inr (by simp)) _, fun q _ h => h⟩
    have dc1 : decide (v < 0) = true := by simpa using hv
    repeat (first | (with_reducible first | refine AW.seq ?_ | refine AW.block ?_ | refine AW.skip ?_ | refine AW.ret ?_ | refine AW.exit ?_ | refine AW.reg hT ?_) | ((with_reducible refine AW.cond_true ?_ ?_); · rfl) | ((with_reducible refine AW.cond_false ?_ ?_); · rfl) | simp (maxSteps := 3000000) (maxDischargeDepth := 12) only [seval,push_cast,appendX,Try.results83,gtt,Heap.lt gtt,gtg,Heap.lt gtg,↓dnl,dc1])
    refine AOpsL.call (first := []) (cap := []) hT rfl rfl rfl fn84 rfl (ACalls.mono (hgo) ?_)
    rintro x σ2 ⟨rfl, hx⟩
    repeat (first | (with_reducible first | refine AW.seq ?_ | refine AW.block ?_ | refine AW.skip ?_ | refine AW.ret ?_ | refine AW.exit ?_ | refine AW.reg hT ?_) | ((with_reducible refine AW.cond_true ?_ ?_); · rfl) | ((with_reducible refine AW.cond_false ?_ ?_); · rfl) | simp (maxSteps := 3000000) (maxDischargeDepth := 12) only [seval,push_cast,appendX,Try.results83,gtt,Heap.lt gtt,gtg,Heap.lt gtg,↓dnl,dc1])
    exact hx
  · have dc1 : decide (v < 0) = false := by simp; omega
    have dcw : IntKind.u64.wrap v = v := wrap_u64 (by omega) (by omega)
    have hB := F.numB σ p fp z.s n v hA.2.2 (by omega) (by omega)
    have hz : z.int n v top = (⟨z.ok && decide ((F.num z.s n v).2 ≤ top), (F.num z.s n v).1⟩, (F.num z.s n v).2) := by simp only [GS.int, hv, if_false]
    have hn := gnum_ok F σ (k := k) (n := n) (u := v) hA hf (by omega) (by omega) (by omega)
    rw [hz]
    revert hB hn
    generalize F.num z.s n v = R
    obtain ⟨s1, r⟩ := R
    intro hB hn
    have hp : (256 : Int) ^ n ≤ 256 ^ 4 := by
      have : (256 : Nat) ^ n ≤ 256 ^ 4 := Nat.pow_le_pow_right (by omega) h4
      exact_mod_cast this
    have hr : 0 ≤ r ∧ r < 4294967296 := ⟨hB.1, Int.lt_of_lt_of_le hB.2 (by simpa using hp)⟩
    clear hB hp
    have dcw3 : IntKind.i64.wrap r = r := wrap_i64 (by omega) (by omega)
    have dc5 : decide (0 ≤ r) = true := by simp; omega
    repeat (first | (with_reducible first | refine AW.seq ?_ | refine AW.block ?_ | refine AW.skip ?_ | refine AW.ret ?_ | refine AW.exit ?_ | refine AW.reg hT ?_) | ((with_reducible show AW _ (.region 2 _ _) _ _ _); (with_reducible refine AW.drawn (id := 2) hT [0,1,2,3,4,5,6,7,8,9,10,11,12,13,14,15] [[],[],[1],[1,2],[1,2,3],[],[],[6],[6,7],[6,7,8],[1,2,3,4],[1,2,3,4,10],[1,2,3,4,5,6,7,8,9,10,11],[1,2,3,4,5,6,7,8,9,10,11,12],[0,1,2,3,4,5,6,7,8,9,10,11,12,13],[0,1,2,3,4,5,6,7,8,9,10,11,12,13,14]] mix (by kernel_rfl) ?_)) | ((with_reducible show DLeft _ _ _ _ (_ :: _) _ _ _ _); (with_reducible apply DLeft.step hT); (case hoi => ((simp only [List.getElem?_toArray,List.getElem?_cons_zero,List.getElem?_cons_succ]); with_reducible rfl)); (case hg => rfl); (case hk => rfl); (case hr => ((try simp (maxSteps := 3000000) (maxDischargeDepth := 12) only [seval,push_cast,appendX,Try.results83,GonO,gtt,Heap.lt gtt,gtg,Heap.lt gtg,↓dnl,dc1,dcw,dcw3,dc5]); with_reducible rfl))) | ((with_reducible refine AW.cond_true ?_ ?_); · rfl) | ((with_reducible refine AW.cond_false ?_ ?_); · rfl) | simp (maxSteps := 3000000) (maxDischargeDepth := 12) only [seval,push_cast,appendX,Try.results83,GonO,gtt,Heap.lt gtt,gtg,Heap.lt gtg,↓dnl,dc1,dcw,dcw3,dc5])
    ((apply DLeft.invoke); (case hoi => ((simp only [List.getElem?_toArray, List.getElem?_cons_zero, List.getElem?_cons_succ]); with_reducible rfl)); (case hg => rfl); (case ho => rfl); (case hc => rfl); (case hm => exact F.mnum); (case has => rfl)); refine ACalls.mono (hn) ?_
    rintro x σ1 ⟨rfl, fp1, hA1, xt1, hfp1⟩
    have gt1 : σ1.get t = some ob := xt1.get gtt htf
    have htf1 : t ∉ fp1 := fun hm => htf (hfp1 t htl hm)
    have dns := hc.store (y := .sc (.int .i64 r)) (ty := 3) gt1 rfl rfl rfl rfl
    have hc2 := hc.put (.sc (.int .i64 r))
    have hlt1 := Heap.lt gt1
    have hA2 : GonAt F (σ1.set t (ob.put i j (.sc (.int .i64 r)))) g p fp1 ⟨z.ok, s1⟩ := hA1.frame (X := [t]) ((Ext.refl _ _).set (.inr (by simp)) _) (by simp; exact Ne.symm htg) (fun q hq hm => by simp at hm; subst hm; exact htf1 hq)
    have hg2 : (σ1.set t (ob.put i j (.sc (.int .i64 r)))).get t = some (ob.put i j (.sc (.int .i64 r))) := Heap.get_set hlt1
    have dnl2 := hc2.load (ty := 3) hg2 rfl rfl
    have hx2 : Ext (t :: g :: fp) σ (σ1.set t (ob.put i j (.sc (.int .i64 r)))) := (xt1.mono (by simp; intro q hq; exact .inr (.inr hq))).set (.inr (by simp)) _
    have hfin : ∀ b : Bool, ACalls Try.prog 84 [.ptr g 0 0 1, .sc (.bool b)] (σ1.set t (ob.put i j (.sc (.int .i64 r)))) (fun x σ' => x = .tup [] ∧ (σ'.get t = some (ob.put i j (.sc (.int .i64 r))) ∧ GonTo F σ σ' g p fp [t] ⟨z.ok && b, s1⟩)) := fun b => by
      refine (needs_ok F _ b hA2.1).mono ?_
      rintro x σ3 ⟨rfl, rfl⟩
      exact ⟨rfl, by simp (maxSteps := 3000000) (maxDischargeDepth := 12) only [push_cast, appendX, Nat.reduceAdd, Nat.reduceEqDiff, Nat.reduceLT, Nat.reduceLeDiff, reduceIte, reduceCtorEq, htg, hlt1, gt1, gtt, Heap.lt gtt, gtg, Heap.lt gtg, ↓dnl, dc1, dcw, dcw3, dc5, xt1.2, xt1.ltT, xt1.leT, gt1, Heap.lt gt1, ↓dns, ↓dnl2], fp1, hA2.set _, hx2.set (.inr (by simp)) _, hfp1⟩
    repeat (first | (with_reducible first | refine AW.seq ?_ | refine AW.block ?_ | refine AW.skip ?_ | refine AW.ret ?_ | refine AW.exit ?_ | refine AW.reg hT ?_) | ((with_reducible show AW _ (.region 2 _ _) _ _ _); (with_reducible refine AW.drawn (id := 2) hT [0,1,2,3,4,5,6,7,8,9,10,11,12,13,14,15] [[],[],[1],[1,2],[1,2,3],[],[],[6],[6,7],[6,7,8],[1,2,3,4],[1,2,3,4,10],[1,2,3,4,5,6,7,8,9,10,11],[1,2,3,4,5,6,7,8,9,10,11,12],[0,1,2,3,4,5,6,7,8,9,10,11,12,13],[0,1,2,3,4,5,6,7,8,9,10,11,12,13,14]] mix (by kernel_rfl) ?_)) | ((with_reducible show DLeft _ _ _ _ (_ :: _) _ _ _ _); (with_reducible apply DLeft.step hT); (case hoi => ((simp only [List.getElem?_toArray,List.getElem?_cons_zero,List.getElem?_cons_succ]); with_reducible rfl)); (case hg => rfl); (case hk => rfl); (case hr => ((try simp (maxSteps := 3000000) (maxDischargeDepth := 12) only [seval,push_cast,appendX,Try.results83,gtt,Heap.lt gtt,gtg,Heap.lt gtg,↓dnl,dc1,dcw,dcw3,dc5,xt1.2,xt1.ltT,xt1.leT,gt1,Heap.lt gt1,↓dns,↓dnl2]); with_reducible rfl))) | ((with_reducible refine AW.cond_true ?_ ?_); · rfl) | ((with_reducible refine AW.cond_false ?_ ?_); · rfl) | simp (maxSteps := 3000000) (maxDischargeDepth := 12) only [seval,push_cast,appendX,Try.results83,gtt,Heap.lt gtt,gtg,Heap.lt gtg,↓dnl,dc1,dcw,dcw3,dc5,xt1.2,xt1.ltT,xt1.leT,gt1,Heap.lt gt1,↓dns,↓dnl2])
    refine AOpsL.call (first := []) (cap := []) hT rfl rfl rfl fn84 rfl (ACalls.mono (hfin (decide (r ≤ top))) ?_)
    rintro x σ3 ⟨rfl, hx⟩
    repeat (first | (with_reducible first | refine AW.seq ?_ | refine AW.block ?_ | refine AW.skip ?_ | refine AW.ret ?_ | refine AW.exit ?_ | refine AW.reg hT ?_) | ((with_reducible show AW _ (.region 2 _ _) _ _ _); (with_reducible refine AW.drawn (id := 2) hT [0,1,2,3,4,5,6,7,8,9,10,11,12,13,14,15] [[],[],[1],[1,2],[1,2,3],[],[],[6],[6,7],[6,7,8],[1,2,3,4],[1,2,3,4,10],[1,2,3,4,5,6,7,8,9,10,11],[1,2,3,4,5,6,7,8,9,10,11,12],[0,1,2,3,4,5,6,7,8,9,10,11,12,13],[0,1,2,3,4,5,6,7,8,9,10,11,12,13,14]] mix (by kernel_rfl) ?_)) | ((with_reducible show DLeft _ _ _ _ (_ :: _) _ _ _ _); (with_reducible apply DLeft.step hT); (case hoi => ((simp only [List.getElem?_toArray,List.getElem?_cons_zero,List.getElem?_cons_succ]); with_reducible rfl)); (case hg => rfl); (case hk => rfl); (case hr => ((try simp (maxSteps := 3000000) (maxDischargeDepth := 12) only [seval,push_cast,appendX,Try.results83,gtt,Heap.lt gtt,gtg,Heap.lt gtg,↓dnl,dc1,dcw,dcw3,dc5,xt1.2,xt1.ltT,xt1.leT,gt1,Heap.lt gt1,↓dns,↓dnl2]); with_reducible rfl))) | ((with_reducible refine AW.cond_true ?_ ?_); · rfl) | ((with_reducible refine AW.cond_false ?_ ?_); · rfl) | simp (maxSteps := 3000000) (maxDischargeDepth := 12) only [seval,push_cast,appendX,Try.results83,gtt,Heap.lt gtt,gtg,Heap.lt gtg,↓dnl,dc1,dcw,dcw3,dc5,xt1.2,xt1.ltT,xt1.leT,gt1,Heap.lt gt1,↓dns,↓dnl2])
    exact hx
theorem group_ok (F : Form) (σ : Heap) {g p : Nat} {fp : List Nat} {z : GS F} {k : Nat} {t i j m : Nat} {ob : AObj} {v : Int} (hA : GonAt F σ g p fp z) (hf : F.fits z.s (k + 1)) (hv0 : 0 ≤ v) (hv9 : v < 4294967296) (htg : t ≠ g) (htf : t ∉ fp) (gtt : σ.get t = some ob) (hc : CellAt ob i j m (.sc (.int .u32 v))) :
    ACalls Try.prog 88 [.ptr g 0 0 1, .ptr t i j m] σ (fun x σ' => x = .tup [] ∧ σ'.get t = some (ob.put i j (.sc (.int .u32 (z.group v).2))) ∧ GonTo F σ σ' g p fp [t] (z.group v).1) := by
  have gtg := hA.1
  have htl := Heap.lt gtt
  have dnl := hc.load (ty := 36) gtt rfl rfl
  have dcw : IntKind.u64.wrap v = v := wrap_u64 (by omega) (by omega)
  have hB := F.numB σ p fp z.s 4 v hA.2.2 (by omega) (by omega)
  have hn := gnum_ok F σ (k := k) (n := 4) (u := v) hA hf (by omega) (by omega) (by omega)
  unfold GS.group
  revert hB hn
  generalize F.num z.s 4 v = R
  obtain ⟨s1, r⟩ := R
  intro hB hn
  have dcw3 : IntKind.u32.wrap r = r := wrap_u32 (by simp at hB; omega) (by simp at hB; omega)
  refine ACalls.code hT Try.func88 rfl ?_
  simp only [Try.ntmps88, List.length_cons, List.length_nil, Nat.reduceSub, Nat.reduceAdd, List.replicate, List.cons_append, List.nil_append]
  repeat (first | (with_reducible first | refine AW.seq ?_ | refine AW.block ?_ | refine AW.skip ?_ | refine AW.ret ?_ | refine AW.exit ?_ | refine AW.reg hT ?_) | ((with_reducible show AW _ (.region 0 _ _) _ _ _); (with_reducible refine AW.drawn (id := 0) hT [0,1,2,3,4,5,6,7,8,9,10,11,12,13,14] [[],[],[1],[1,2],[1,2,3],[],[5],[5,6],[5,6,7],[1,2,3,4],[1,2,3,4,9],[1,2,3,4,5,6,7,8,9,10],[1,2,3,4,5,6,7,8,9,10,11],[0,1,2,3,4,5,6,7,8,9,10,11,12],[0,1,2,3,4,5,6,7,8,9,10,11,12,13]] mix (by kernel_rfl) ?_)) | ((with_reducible show DLeft _ _ _ _ (_ :: _) _ _ _ _); (with_reducible apply DLeft.step hT); (case hoi => ((simp only [List.getElem?_toArray,List.getElem?_cons_zero,List.getElem?_cons_succ]); with_reducible rfl)); (case hg => rfl); (case hk => rfl); (case hr => ((try simp (maxSteps := 3000000) (maxDischargeDepth := 12) only [seval,push_cast,appendX,Try.results88,GonO,gtt,Heap.lt gtt,gtg,Heap.lt gtg,↓dnl,dcw,dcw3]); with_reducible rfl))) | ((with_reducible refine AW.cond_true ?_ ?_); · rfl) | ((with_reducible refine AW.cond_false ?_ ?_); · rfl) | simp (maxSteps := 3000000) (maxDischargeDepth := 12) only [seval,push_cast,appendX,Try.results88,GonO,gtt,Heap.lt gtt,gtg,Heap.lt gtg,↓dnl,dcw,dcw3])
  ((apply DLeft.invoke); (case hoi => ((simp only [List.getElem?_toArray, List.getElem?_cons_zero, List.getElem?_cons_succ]); with_reducible rfl)); (case hg => rfl); (case ho => rfl); (case hc => rfl); (case hm => exact F.mnum); (case has => rfl)); refine ACalls.mono (hn) ?_
  rintro x σ1 ⟨rfl, fp1, hA1, xt1, hfp1⟩
  have gt1 : σ1.get t = some ob := xt1.get gtt htf
  have htf1 : t ∉ fp1 := fun hm => htf (hfp1 t htl hm)
  have dns := hc.store (y := .sc (.int .u32 r)) (ty := 36) gt1 rfl rfl rfl rfl
  have hlt1 := Heap.lt gt1
  repeat (first | (with_reducible first | refine AW.seq ?_ | refine AW.block ?_ | refine AW.skip ?_ | refine AW.ret ?_ | refine AW.exit ?_ | refine AW.reg hT ?_) | ((with_reducible show AW _ (.region 0 _ _) _ _ _); (with_reducible refine AW.drawn (id := 0) hT [0,1,2,3,4,5,6,7,8,9,10,11,12,13,14] [[],[],[1],[1,2],[1,2,3],[],[5],[5,6],[5,6,7],[1,2,3,4],[1,2,3,4,9],[1,2,3,4,5,6,7,8,9,10],[1,2,3,4,5,6,7,8,9,10,11],[0,1,2,3,4,5,6,7,8,9,10,11,12],[0,1,2,3,4,5,6,7,8,9,10,11,12,13]] mix (by kernel_rfl) ?_)) | ((with_reducible show DLeft _ _ _ _ (_ :: _) _ _ _ _); (with_reducible apply DLeft.step hT); (case hoi => ((simp only [List.getElem?_toArray,List.getElem?_cons_zero,List.getElem?_cons_succ]); with_reducible rfl)); (case hg => rfl); (case hk => rfl); (case hr => ((try simp (maxSteps := 3000000) (maxDischargeDepth := 12) only [seval,push_cast,appendX,Try.results88,gtt,Heap.lt gtt,gtg,Heap.lt gtg,↓dnl,dcw,dcw3,xt1.2,xt1.ltT,xt1.leT,gt1,Heap.lt gt1,↓dns]); with_reducible rfl))) | ((with_reducible refine AW.cond_true ?_ ?_); · rfl) | ((with_reducible refine AW.cond_false ?_ ?_); · rfl) | simp (maxSteps := 3000000) (maxDischargeDepth := 12) only [seval,push_cast,appendX,Try.results88,gtt,Heap.lt gtt,gtg,Heap.lt gtg,↓dnl,dcw,dcw3,xt1.2,xt1.ltT,xt1.leT,gt1,Heap.lt gt1,↓dns])
  exact ⟨fp1, hA1.frame (X := [t]) ((Ext.refl _ _).set (.inr (by simp)) _) (by simp; exact Ne.symm htg) (fun q hq hm => by simp at hm; subst hm; exact htf1 hq), (xt1.mono (Y := t :: g :: fp) (by simp; intro q hq; exact .inr (.inr hq))).set (.inr (by simp)) _, hfp1⟩
theorem GonTo.of {F : Form} {σ σ' : Heap} {g p : Nat} {fp Y : List Nat} {z : GS F} (h : GonTo F σ σ' g p fp Y z) {t : Nat} (ht : t < σ.n) (htf : t ∉ fp) : ∃ fp', GonAt F σ' g p fp' z ∧ Ext (Y ++ g :: fp) σ σ' ∧ (∀ q, q < σ.n → q ∈ fp' → q ∈ fp) ∧ t ∉ fp' := by
  obtain ⟨fp', h1, h2, h3⟩ := h
  exact ⟨fp', h1, h2, h3, fun hm => htf (h3 t ht hm)⟩
/-- Two steps, one behind the other. -/
theorem GonTo.trans {F : Form} {σ σ1 σ2 : Heap} {g p : Nat} {fp fp1 Y : List Nat} {z : GS F} (x1 : Ext (Y ++ g :: fp) σ σ1) (hn : ∀ q, q < σ.n → q ∈ fp1 → q ∈ fp) (k : GonTo F σ1 σ2 g p fp1 Y z) : GonTo F σ σ2 g p fp Y z := by
  obtain ⟨fp2, h1, h2, h3⟩ := k
  refine ⟨fp2, h1, x1.then h2 (fun q hq hl => ?_), fun q hq hm => hn q hq (h3 q (Nat.lt_of_lt_of_le hq x1.1) hm)⟩
  rcases List.mem_append.1 hq with h | h
  · exact List.mem_append_left _ h
  · rcases List.mem_cons.1 h with rfl | h
    · exact List.mem_append_right _ (List.mem_cons_self ..)
    · exact List.mem_append_right _ (List.mem_cons_of_mem _ (hn q hl h))
theorem GonTo.mono {F : Form} {σ σ' : Heap} {g p : Nat} {fp Y Y' : List Nat} {z : GS F} (h : GonTo F σ σ' g p fp Y z) (hy : ∀ q ∈ Y, q ∈ Y') : GonTo F σ σ' g p fp Y' z := by
  obtain ⟨fp', h1, h2, h3⟩ := h
  refine ⟨fp', h1, h2.mono (fun q hq => ?_), h3⟩
  rcases List.mem_append.1 hq with h | h
  · exact List.mem_append_left _ (hy q h)
  · exact List.mem_append_right _ h
theorem hop_ok (F : Form) (σ : Heap) {g p : Nat} {fp : List Nat} {z : GS F} {k : Nat} {t i j m : Nat} {ob : AObj} {v : Int} (hA : GonAt F σ g p fp z) (hf : F.fits z.s (k + 3)) (htg : t ≠ g) (htf : t ∉ fp) (gtt : σ.get t = some ob) (hc : CellAt ob i j m (.sc (.int .i64 v))) :
    ACalls Try.prog 87 [.ptr g 0 0 1, .ptr t i j m] σ (fun x σ' => x = .tup [] ∧ σ'.get t = some (ob.put i j (.sc (.int .i64 (z.hop v).2))) ∧ GonTo F σ σ' g p fp [t] (z.hop v).1) := by
  have htl := Heap.lt gtt
  refine ACalls.code hT Try.func87 rfl ?_
  simp only [Try.ntmps87, List.length_cons, List.length_nil, Nat.reduceSub, Nat.reduceAdd, List.replicate, List.cons_append, List.nil_append]
  repeat (first | (with_reducible first | refine AW.seq ?_ | refine AW.block ?_ | refine AW.skip ?_ | refine AW.ret ?_ | refine AW.exit ?_ | refine AW.reg hT ?_) | ((with_reducible refine AW.cond_true ?_ ?_); · rfl) | ((with_reducible refine AW.cond_false ?_ ?_); · rfl) | simp (maxSteps := 3000000) (maxDischargeDepth := 12) only [seval,push_cast,appendX,Try.results87,gtt,Heap.lt gtt])
  refine AOpsL.call (first := []) (cap := []) hT rfl rfl rfl fn82 rfl (ACalls.mono (fixed_ok F σ (k := k + 2) (n := 2) (u := 264) hA hf (by omega) (by omega) (by omega)) ?_)
  rintro x σ1 ⟨rfl, h1⟩
  obtain ⟨fp1, hA1, xt1, hn1, htf1⟩ := h1.of htl htf
  have gt1 : σ1.get t = some ob := xt1.get gtt (by simp; exact ⟨htg, htf⟩)
  have hf1 : F.fits (z.fix 2 264).s (k + 2) := F.fitsN _ _ _ _ (by omega) hf
  repeat (first | (with_reducible first | refine AW.seq ?_ | refine AW.block ?_ | refine AW.skip ?_ | refine AW.ret ?_ | refine AW.exit ?_ | refine AW.reg hT ?_) | ((with_reducible refine AW.cond_true ?_ ?_); · rfl) | ((with_reducible refine AW.cond_false ?_ ?_); · rfl) | simp (maxSteps := 3000000) (maxDischargeDepth := 12) only [seval,push_cast,appendX,Try.results87,gtt,Heap.lt gtt,xt1.2,xt1.ltT,xt1.leT,gt1,Heap.lt gt1])
  refine AOpsL.call (first := []) (cap := []) hT rfl rfl rfl fn81 rfl (ACalls.mono (node_ok F σ1 (k := k + 1) hA1 hf1 htg htf1 gt1 hc) ?_)
  rintro x σ2 ⟨rfl, gt2, h2⟩
  obtain ⟨fp2, hA2, xt2, hn2, htf2⟩ := h2.of (Heap.lt gt1) htf1
  have hf2 : F.fits ((z.fix 2 264).node v).1.s (k + 1) := (z.fix 2 264).fits_node _ hf1
  repeat (first | (with_reducible first | refine AW.seq ?_ | refine AW.block ?_ | refine AW.skip ?_ | refine AW.ret ?_ | refine AW.exit ?_ | refine AW.reg hT ?_) | ((with_reducible refine AW.cond_true ?_ ?_); · rfl) | ((with_reducible refine AW.cond_false ?_ ?_); · rfl) | simp (maxSteps := 3000000) (maxDischargeDepth := 12) only [seval,push_cast,appendX,Try.results87,gtt,Heap.lt gtt,xt1.2,xt1.ltT,xt1.leT,gt1,Heap.lt gt1,gt2,Heap.lt gt2,xt2.2,xt2.ltT,xt2.leT])
  refine AOpsL.call (first := []) (cap := []) hT rfl rfl rfl fn82 rfl (ACalls.mono (fixed_ok F σ2 (k := k) (n := 2) (u := 8192) hA2 hf2 (by omega) (by omega) (by omega)) ?_)
  rintro x σ3 ⟨rfl, h3⟩
  have gt3 : σ3.get t = some (ob.put i j (.sc (.int .i64 ((z.fix 2 264).node v).2))) := by
    obtain ⟨fp3, _, xt3, _⟩ := h3
    exact xt3.get gt2 (by simp; exact ⟨htg, htf2⟩)
  repeat (first | (with_reducible first | refine AW.seq ?_ | refine AW.block ?_ | refine AW.skip ?_ | refine AW.ret ?_ | refine AW.exit ?_ | refine AW.reg hT ?_) | ((with_reducible refine AW.cond_true ?_ ?_); · rfl) | ((with_reducible refine AW.cond_false ?_ ?_); · rfl) | simp (maxSteps := 3000000) (maxDischargeDepth := 12) only [seval,push_cast,appendX,Try.results87,gtt,Heap.lt gtt,xt1.2,xt1.ltT,xt1.leT,gt1,Heap.lt gt1,gt2,Heap.lt gt2,xt2.2,xt2.ltT,xt2.leT,gt3,Heap.lt gt3])
  refine ⟨rfl, GonTo.trans (Y := [t]) (xt1.mono (by simp; intro q hq; exact .inr (.inr hq))) hn1 (GonTo.trans xt2 hn2 (h3.mono (by simp)))⟩
theorem GonAt.out {F : Form} {σ : Heap} {g p t : Nat} {fp : List Nat} {z : GS F} {o : AObj} (h : GonAt F σ g p fp z) (gt : σ.get t = some o) (he : o.e = 3 ∨ o.e = 77) : t ≠ g ∧ t ∉ fp := by
  refine ⟨?_, ?_⟩
  · rintro rfl
    rw [h.1] at gt
    cases gt
    simp [GonO] at he
  · intro hm
    obtain ⟨o', h1, h2, h3, h4⟩ := F.tys h.2.2 t hm
    rw [h1] at gt
    cases gt
    rcases he with he | he
    · exact h2 he
    · exact h3 he
/-- An item's numbers. -/
structure Fs where
  cls : Int
  a : Int
  b : Int
  c : Int
  u : Int
  bw : Int
  su : Int
  ho : Int
  an : Int
  al : Int
  no : Int
def itC (x : Fs) (d : DV) : List DV := [.sc (.int .i64 x.cls), .sc (.int .i64 x.a), .sc (.int .i64 x.b), .sc (.int .i64 x.c), .sc (.int .u64 x.u), d, .sc (.int .u64 x.bw), .sc (.int .i64 x.su), .sc (.int .i64 x.ho), .sc (.int .u32 x.an), .sc (.int .u32 x.al), .sc (.int .u32 x.no)]
def ItO (x : Fs) (d : DV) : AObj := ⟨[itC x d], 77, true⟩
def eI (n : Int) : List DV := [.sc (.int .i64 n)]
def GS.needs {F : Form} (z : GS F) (b : Bool) : GS F := ⟨z.ok && b, z.s⟩
def GS.hops {F : Form} (z : GS F) (l : List Int) : GS F := l.foldl (fun z v => (z.hop v).1) z
theorem GS.fits_hop {F : Form} (z : GS F) {k : Nat} (v : Int) (hf : F.fits z.s (k + 3)) : F.fits (z.hop v).1.s k := F.fitsN _ _ _ _ (by omega) ((z.fix 2 264).fits_node v (F.fitsN _ (k + 2) _ _ (by omega) hf))
theorem GS.fits_hops {F : Form} : ∀ (l : List Int) (z : GS F) (k : Nat), F.fits z.s (3 * l.length + k) → F.fits (z.hops l).s k
  | [], z, k, h => by simpa [GS.hops] using h
  | v :: l, z, k, h => by
    have : F.fits (z.hop v).1.s (3 * l.length + k) := z.fits_hop v (by have e : 3 * (v :: l).length + k = 3 * l.length + k + 3 := by simp; omega
                                                                       rwa [e] at h)
    exact GS.fits_hops l _ k this
theorem lay_hop (z : GS layF) (v : Int) : (z.hop v).2 = v := by
  unfold GS.hop GS.node
  split
  · rfl
  · rename_i h
    have hf : fitN 4 (167772160 + v) := fun _ => by simp; omega
    simp only [layF, layN, hf, if_true]
    omega
theorem needsT_ok (F : Form) (σ0 σ : Heap) {g p : Nat} {fp0 fp Y : List Nat} {z : GS F} (b : Bool) (hA : GonAt F σ g p fp z) (hx : Ext (Y ++ g :: fp0) σ0 σ) (hn : ∀ q, q < σ0.n → q ∈ fp → q ∈ fp0) : ACalls Try.prog 84 [.ptr g 0 0 1, .sc (.bool b)] σ (fun x σ' => x = .tup [] ∧ GonTo F σ0 σ' g p fp0 Y (z.needs b) ∧ Ext [g] σ σ') := by
  refine (needs_ok F σ b hA.1).mono ?_
  rintro x σ' ⟨rfl, rfl⟩
  exact ⟨rfl, ⟨fp, hA.set _, hx.set (.inr (by simp)) _, hn⟩, (Ext.refl _ _).set (.inr (by simp)) _⟩
/-- A list's row, in an item. -/
def ListAt (σ : Heap) (q : Nat) (x : Fs) (d : DV) (L : List Int) : Prop := σ.get q = some (ItO x d) ∧ Hold σ d 3 (L.map eI)
def llI (g q p : Nat) (fp : List Nat) (x : Fs) (d : DV) (z : GS layF) (L : List Int) (σ0 : Heap) (m : Nat) (ts : List DV) (σ : Heap) : Prop := ∃ i fp', m = L.length + 1 - i ∧ i ≤ L.length ∧ ListAt σ q x d L ∧ GonAt layF σ g p fp' (z.hops (L.take i)) ∧ Ext (tOf d ++ g :: fp) σ0 σ ∧ (∀ r, r < σ0.n → r ∈ fp' → r ∈ fp) ∧ TellsL ts (.ptr g 0 0 1 :: .ptr q 0 5 1 :: .any :: .any :: .any :: .any :: .any :: .any :: d :: .sc (.int .i64 L.length) :: .sc (.int .i64 i) :: .any :: .any :: .any :: .any :: .any :: .any :: .any :: .any :: .any :: .any :: .any :: .any :: .any :: .any :: .any :: .any :: .any :: .any :: .any :: .any :: .any :: .any :: .any :: .any :: .any :: .any :: .any :: .any :: .any :: .any :: .any :: .any :: .any :: .any :: .any :: .any :: .any :: .any :: [])
theorem list_lay (σ : Heap) {g p q : Nat} {fp : List Nat} {z : GS layF} {x : Fs} {d : DV} {L : List Int} (hA : GonAt layF σ g p fp z) (hL : ListAt σ q x d L) (hf : layF.fits z.s 48) (hl : L.length ≤ 16) :
    ACalls Try.prog 85 [.ptr g 0 0 1, .ptr q 0 5 1] σ (fun y σ' => y = .tup [] ∧ ListAt σ' q x d L ∧ GonTo layF σ σ' g p fp (tOf d) ((z.hops L).needs (decide (L.length ≤ 16)))) := by
  obtain ⟨gtq, hh⟩ := hL
  have dnl := lenH (ty := 39) hh rfl
  have dncl := hh.cells
  have dnlf := hh.leaf
  refine ACalls.code hT Try.func85 rfl ?_
  simp only [Try.ntmps85, List.length_cons, List.length_nil, Nat.reduceSub, Nat.reduceAdd, List.replicate, List.cons_append, List.nil_append]
  repeat (first | (with_reducible first | refine AW.seq ?_ | refine AW.block ?_ | refine AW.skip ?_ | refine AW.ret ?_ | refine AW.exit ?_ | refine AW.reg hT ?_) | ((with_reducible refine AW.cond_true ?_ ?_); · rfl) | ((with_reducible refine AW.cond_false ?_ ?_); · rfl) | simp (maxSteps := 3000000) (maxDischargeDepth := 12) only [seval,push_cast,appendX,Try.results85,ItO,itC,gtq,Heap.lt gtq,↓dnl,↓dncl,↓dnlf])
  refine AW.loop (llI g q p fp x d z L σ) (m := L.length + 1) ⟨0, fp, rfl, Nat.zero_le _, ⟨gtq, hh⟩, hA, Ext.refl _ _, fun _ _ h => h, by (simp only [push_cast, TellsL, tells_any, tells_refl])⟩ ?_
  rintro m ts σ1 ⟨i, fp1, rfl, hi, ⟨gtq1, hh1⟩, hA1, xt1, hn1, hts⟩
  refine AW.told hts ?_
  clear hts
  by_cases hlt : i < L.length
  · have dci : decide ((i : Int) < (L.length : Int)) = true := by simp; omega
    have dci2 : ((i : Int) < (L.length : Int)) = True := by simp; omega
    have dci0 : ((0 : Int) ≤ (i : Int)) = True := by simp
    have dcw : IntKind.i64.wrap ((i : Int) + 1) = (i : Int) + 1 := wrap_i64 (by omega) (by omega)
    obtain ⟨t, full, rfl, gtt, hti⟩ := hh1.at_ (i := i) (by simpa using hlt)
    rw [List.length_map] at dnl dncl dnlf
    have hle : L.length ≤ full.length := by
      rcases hh1 with ⟨h, _⟩ | ⟨t', full', h, _, h2, _⟩
      · cases h
      · injection h with e1 e2 e3 e4
        rw [e4]; simpa using h2
    have dcf : (i < full.length) = True := by simp; omega
    have hc : CellAt ⟨full, 3, some true⟩ i 0 full.length (.sc (.int .i64 L[i])) := ⟨rfl, rfl, eI L[i], by rw [hti]; simp, rfl⟩
    obtain ⟨htg, htf⟩ := hA1.out gtt (.inl rfl)
    obtain ⟨k, hk⟩ : ∃ k, 48 = 3 * i + (k + 3) := ⟨48 - 3 * i - 3, by omega⟩
    have hfi : layF.fits (z.hops (L.take i)).s (k + 3) := GS.fits_hops _ z _ (by rw [List.length_take, Nat.min_eq_left hi, ← hk]; exact hf)
    have hhop := hop_ok layF σ1 hA1 hfi htg htf gtt hc
    rw [lay_hop, hc.put_self] at hhop
    have hel : (L.map eI).length = L.length := List.length_map ..
    repeat (first | (with_reducible first | refine AW.seq ?_ | refine AW.block ?_ | refine AW.skip ?_ | refine AW.ret ?_ | refine AW.exit ?_ | refine AW.reg hT ?_) | ((with_reducible refine AW.cond_true ?_ ?_); · rfl) | ((with_reducible refine AW.cond_false ?_ ?_); · rfl) | simp (maxSteps := 3000000) (maxDischargeDepth := 12) only [seval,push_cast,appendX,Try.results85,ItO,itC,hel,gtq,Heap.lt gtq,↓dnl,↓dncl,↓dnlf,gtq1,Heap.lt gtq1,xt1.2,xt1.ltT,xt1.leT,dci,dci2,dci0,dcw,gtt,Heap.lt gtt,dcf])
    refine AOpsL.call (first := []) (cap := []) hT rfl rfl rfl fn87 rfl (ACalls.mono (hhop) ?_)
    rintro y σ2 ⟨rfl, gt2, fp2, hA2, xt2, hn2⟩
    have hq1 := hA1.out gtq1 (.inr rfl)
    have hqt : q ≠ t := by
      rintro rfl
      rw [gtt] at gtq1
      have h2 := congrArg AObj.e (Option.some.inj gtq1)
      simp [ItO] at h2
    have gtq2 := xt2.get gtq1 (by simp; exact ⟨hqt, hq1.1, hq1.2⟩)
    rw [hel] at gtq2
    repeat (first | (with_reducible first | refine AW.seq ?_ | refine AW.block ?_ | refine AW.skip ?_ | refine AW.ret ?_ | refine AW.exit ?_ | refine AW.reg hT ?_) | ((with_reducible refine AW.cond_true ?_ ?_); · rfl) | ((with_reducible refine AW.cond_false ?_ ?_); · rfl) | simp (maxSteps := 3000000) (maxDischargeDepth := 12) only [seval,push_cast,appendX,Try.results85,gtq,Heap.lt gtq,↓dnl,↓dncl,↓dnlf,gtq1,Heap.lt gtq1,xt1.2,xt1.ltT,xt1.leT,dci,dci2,dci0,dcw,gtt,Heap.lt gtt,dcf,gt2,Heap.lt gt2,xt2.2,xt2.ltT,xt2.leT,gtq2,Heap.lt gtq2])
    have hic : (((i + 1 : Nat)) : Int) = (i : Int) + 1 := by omega
    have htk : L.take (i + 1) = L.take i ++ [L[i]] := by rw [List.take_succ_eq_append_getElem hlt]
    refine ⟨L.length + 1 - (i + 1), by omega, i + 1, fp2, rfl, hlt, ⟨gtq2, ?_⟩, ?_, ?_, fun r hr hm => hn1 r hr (hn2 r (Nat.lt_of_lt_of_le hr xt1.1) hm), by (simp only [push_cast, TellsL, tells_any, tells_refl, hic])⟩
    · rcases hh1 with ⟨h, _⟩ | ⟨t', full', h, h1, h2, h3⟩
      · cases h
      · injection h with e1 e2 e3 e4
        subst e1
        rw [gtt] at h1
        cases h1
        exact .inr ⟨t, full, by rw [hel], gt2, h2, h3⟩
    · rw [htk, GS.hops, List.foldl_append]; exact hA2
    · refine xt1.then xt2 (fun r hr hlr => ?_)
      rcases List.mem_append.1 hr with h | h
      · exact List.mem_append_left _ (by simpa [tOf] using h)
      · rcases List.mem_cons.1 h with rfl | h
        · exact List.mem_append_right _ (List.mem_cons_self ..)
        · exact List.mem_append_right _ (List.mem_cons_of_mem _ (hn1 r hlr h))
  · have dci : decide ((i : Int) < (L.length : Int)) = false := by simp; omega
    have he : i = L.length := by omega
    subst he
    rw [List.take_length] at hA1
    have gtg1 := hA1.1
    repeat (first | (with_reducible first | refine AW.seq ?_ | refine AW.block ?_ | refine AW.skip ?_ | refine AW.ret ?_ | refine AW.exit ?_ | refine AW.reg hT ?_) | ((with_reducible refine AW.cond_true ?_ ?_); · rfl) | ((with_reducible refine AW.cond_false ?_ ?_); · rfl) | simp (maxSteps := 3000000) (maxDischargeDepth := 12) only [seval,push_cast,appendX,Try.results85,GonO,gtq,Heap.lt gtq,↓dnl,↓dncl,↓dnlf,gtq1,Heap.lt gtq1,xt1.2,xt1.ltT,xt1.leT,dci,gtg1,Heap.lt gtg1])
    refine AW.loop (fun m ts σ2 => σ2 = σ1 ∧ TellsL ts (.ptr g 0 0 1 :: .ptr q 0 5 1 :: .any :: .any :: .any :: .any :: .any :: .any :: .any :: .any :: .any :: .any :: .any :: .any :: .any :: .any :: .any :: .any :: .any :: .any :: .any :: .any :: .any :: .any :: .any :: .any :: .any :: .any :: .any :: .any :: .any :: .any :: .any :: .any :: .any :: .any :: .any :: .any :: .any :: .any :: .any :: .any :: .any :: .any :: .any :: .any :: .any :: .any :: .any :: [])) (m := 1) ⟨rfl, by (simp only [push_cast, TellsL, tells_any, tells_refl])⟩ ?_
    rintro m ts σ2 ⟨rfl, hts⟩
    refine AW.told hts ?_
    clear hts
    repeat (first | (with_reducible first | refine AW.seq ?_ | refine AW.block ?_ | refine AW.skip ?_ | refine AW.ret ?_ | refine AW.exit ?_ | refine AW.reg hT ?_) | ((with_reducible refine AW.cond_true ?_ ?_); · rfl) | ((with_reducible refine AW.cond_false ?_ ?_); · rfl) | simp (maxSteps := 3000000) (maxDischargeDepth := 12) only [seval,push_cast,appendX,Try.results85,GonO,gtq,Heap.lt gtq,↓dnl,↓dncl,↓dnlf,gtq1,Heap.lt gtq1,xt1.2,xt1.ltT,xt1.leT,dci,gtg1,Heap.lt gtg1])
    refine AOpsL.rule hT rfl (AOp.invoke rfl rfl (layF.mmore) rfl (ACalls.mono (layF.moreOk σ2 p fp1 _ hA1.2.2) ?_))
    rintro y σ3 ⟨rfl, rfl⟩
    have dcm : layF.more (z.hops L).s = false := rfl
    repeat (first | (with_reducible first | refine AW.seq ?_ | refine AW.block ?_ | refine AW.skip ?_ | refine AW.ret ?_ | refine AW.exit ?_ | refine AW.reg hT ?_) | ((with_reducible refine AW.cond_true ?_ ?_); · rfl) | ((with_reducible refine AW.cond_false ?_ ?_); · rfl) | simp (maxSteps := 3000000) (maxDischargeDepth := 12) only [seval,push_cast,appendX,Try.results85,GonO,ItO,itC,gtq,Heap.lt gtq,↓dnl,↓dncl,↓dnlf,gtq1,Heap.lt gtq1,xt1.2,xt1.ltT,xt1.leT,dci,gtg1,Heap.lt gtg1,dcm])
    refine AOpsL.call (first := []) (cap := []) hT rfl rfl rfl fn84 rfl (ACalls.mono (needsT_ok layF σ σ3 (Y := tOf d) (decide ((L.length : Int) ≤ 16)) hA1 xt1 hn1) ?_)
    rintro y σ4 ⟨rfl, hx, xt3⟩
    have hq1 := hA1.out gtq1 (.inr rfl)
    repeat (first | (with_reducible first | refine AW.seq ?_ | refine AW.block ?_ | refine AW.skip ?_ | refine AW.ret ?_ | refine AW.exit ?_ | refine AW.reg hT ?_) | ((with_reducible refine AW.cond_true ?_ ?_); · rfl) | ((with_reducible refine AW.cond_false ?_ ?_); · rfl) | simp (maxSteps := 3000000) (maxDischargeDepth := 12) only [seval,push_cast,appendX,Try.results85,gtq,Heap.lt gtq,↓dnl,↓dncl,↓dnlf,gtq1,Heap.lt gtq1,xt1.2,xt1.ltT,xt1.leT,dci,gtg1,Heap.lt gtg1,dcm,xt3.2,xt3.ltT,xt3.leT])
    have hd : decide ((L.length : Int) ≤ 16) = decide (L.length ≤ 16) := by apply decide_eq_decide.2; omega
    rw [hd] at hx
    exact ⟨⟨xt3.get gtq1 (by simpa using hq1.1), hh1.frame xt3 (fun r hr hm => by simp at hm; subst hm; exact hh1.ne hA1.1 (by simp [GonO]) hr)⟩, hx⟩
/-! The taker's list. -/
def tkM (z : GS takF) : Nat := if z.ok then (if z.s.2 = 0 then z.s.1.length + 2 else 1) else 0
def takL : Nat → GS takF → List Int → GS takF × List Int
  | 0, z, L => (z, L)
  | n + 1, z, L => if takF.more z.s = true ∧ z.ok = true then takL n (z.hop 0).1 (L ++ [(z.hop 0).2]) else (z, L)
theorem takN_e (s : List Int × Int) (n : Nat) (u : Int) (h : s.2 ≠ 0) : takN s n u = (s, 0) := by
  obtain ⟨l, e⟩ := s
  simp only [takN, tk]
  simp at h
  simp [h, num]
theorem takN_0 (l : List Int) (n : Nat) (u : Int) : takN (l, 0) n u = if l.length < n then ((l, 4), 0) else ((l.drop n, 0), num (l.take n)) := by
  simp only [takN, tk]
  by_cases h : l.length < n
  · have h2 : (l.length : Int) < n := by omega
    simp [h, h2, num]
  · have h2 : ¬ (l.length : Int) < n := by omega
    simp [h, h2]
theorem takN_len (s : List Int × Int) (n : Nat) (u : Int) (h : (takN s n u).1.2 = 0) : s.2 = 0 ∧ n ≤ s.1.length ∧ (takN s n u).1.1 = s.1.drop n ∧ (takN s n u).2 = num (s.1.take n) := by
  obtain ⟨l, e⟩ := s
  by_cases he : e = 0
  · subst he
    rw [takN_0] at h ⊢
    by_cases hl : l.length < n
    · simp [hl] at h
    · simp only [hl, if_false] at h ⊢
      exact ⟨by simp, by omega, by simp, by simp⟩
  · rw [takN_e _ _ _ he] at h; exact absurd h he
theorem fix_ok {F : Form} (z : GS F) (n : Nat) (u : Int) (h : (z.fix n u).ok = true) : z.ok = true ∧ ((F.num z.s n u).2 == u) = true := by
  simpa only [GS.fix, Bool.and_eq_true] using h
theorem node_ok1 {F : Form} (z : GS F) (v : Int) (h : (z.node v).1.ok = true) : z.ok = true := by
  unfold GS.node at h
  split at h
  · cases h
  · simp only [Bool.and_eq_true] at h; exact h.1
theorem node_len (z : GS takF) (v : Int) (h : (z.node v).1.s.2 = 0) : z.s.2 = 0 ∧ (z.node v).1.s.1.length ≤ z.s.1.length := by
  by_cases hv : v < 0 ∨ 16 ≤ v
  · simp only [GS.node, hv, if_true] at h ⊢
    exact ⟨h, Nat.le_refl _⟩
  · simp only [GS.node, hv, if_false] at h ⊢
    have k := takN_len z.s 4 (167772160 + v) h
    refine ⟨k.1, ?_⟩
    have e : (takF.num z.s 4 (167772160 + v)).1.1 = z.s.1.drop 4 := k.2.2.1
    rw [e]; simp
theorem hop_len (z : GS takF) (v : Int) (h : (z.hop v).1.s.2 = 0) : z.s.2 = 0 ∧ (z.hop v).1.s.1.length + 2 ≤ z.s.1.length := by
  obtain ⟨h1, h2, h3, _⟩ := takN_len ((z.fix 2 264).node v).1.s 2 8192 h
  obtain ⟨h4, h5⟩ := node_len (z.fix 2 264) v h1
  obtain ⟨h6, h7, h8, _⟩ := takN_len z.s 2 264 h4
  refine ⟨h6, ?_⟩
  have e1 : (z.hop v).1.s.1.length = ((z.fix 2 264).node v).1.s.1.length - 2 := by
    show (takN ((z.fix 2 264).node v).1.s 2 8192).1.1.length = _
    rw [h3]; simp
  have e2 : (z.fix 2 264).s.1.length = z.s.1.length - 2 := by
    show (takN z.s 2 264).1.1.length = _
    rw [h8]; simp
  omega
theorem tkM_hop (z : GS takF) (v : Int) (ho : z.ok = true) : tkM (z.hop v).1 < tkM z := by
  by_cases hk : (z.hop v).1.ok = true
  · have h1 := fix_ok z 2 264 (node_ok1 _ _ (fix_ok _ _ _ hk).1)
    by_cases he : z.s.2 = 0
    · by_cases h3 : (z.hop v).1.s.2 = 0
      · have := hop_len z v h3
        simp only [tkM, hk, h3, ho, he, if_true]; omega
      · simp only [tkM, hk, h3, ho, he, if_true, if_false]; omega
    · have h2 : ((takN z.s 2 264).2 == 264) = true := h1.2
      rw [takN_e _ _ _ he] at h2; simp at h2
  · simp only [tkM, hk, ho, if_true]
    simp only [Bool.false_eq_true, if_false]
    split <;> omega
theorem takL_more : ∀ (n : Nat) (z : GS takF) (L : List Int), tkM z ≤ n → takL (n + 1) z L = takL n z L
  | 0, z, L, h => by
    have hz : z.ok = false := by
      cases hk : z.ok
      · rfl
      · simp only [tkM, hk, if_true] at h; split at h <;> omega
    simp [takL, hz]
  | n + 1, z, L, h => by
    show (if _ then takL (n + 1) (z.hop 0).1 _ else _) = (if _ then takL n _ _ else _)
    split
    · rename_i hc; exact takL_more n _ _ (by have := tkM_hop z 0 hc.2; omega)
    · rfl
theorem takL_ge (z : GS takF) (L : List Int) : ∀ k, takL (tkM z + k) z L = takL (tkM z) z L
  | 0 => rfl
  | k + 1 => by rw [← Nat.add_assoc, takL_more _ _ _ (by omega), takL_ge z L k]
theorem takL_step (z : GS takF) (L : List Int) (h : takF.more z.s = true ∧ z.ok = true) : takL (tkM z) z L = takL (tkM (z.hop 0).1) (z.hop 0).1 (L ++ [(z.hop 0).2]) := by
  have h1 := tkM_hop z 0 h.2
  obtain ⟨k, hk⟩ : ∃ k, tkM z = tkM (z.hop 0).1 + k + 1 := ⟨tkM z - tkM (z.hop 0).1 - 1, by omega⟩
  rw [hk]
  show (if _ then takL _ (z.hop 0).1 _ else _) = _
  rw [if_pos h, takL_ge]
theorem takL_stop (z : GS takF) (L : List Int) (h : ¬ (takF.more z.s = true ∧ z.ok = true)) : takL (tkM z) z L = (z, L) := by
  cases hn : tkM z with
  | zero => rfl
  | succ n => show (if _ then takL n _ _ else _) = _; rw [if_neg h]
def tkI (g q p : Nat) (fp : List Nat) (x : Fs) (z : GS takF) (σ0 : Heap) (m : Nat) (ts : List DV) (σ : Heap) : Prop := ∃ z1 L1 d fp', m = tkM z1 ∧ takL (tkM z1) z1 L1 = takL (tkM z) z [] ∧ L1.length + tkM z1 ≤ tkM z ∧ ListAt σ q x d L1 ∧ GonAt takF σ g p fp' z1 ∧ Ext (q :: g :: fp) σ0 σ ∧ (∀ r, r < σ0.n → r ∈ fp' → r ∈ fp) ∧ (∀ r ∈ tOf d, σ0.n ≤ r) ∧ TellsL ts (.ptr g 0 0 1 :: .ptr q 0 5 1 :: .any :: .any :: .any :: .any :: .any :: .any :: .any :: .any :: .any :: .any :: .any :: .any :: .any :: .any :: .any :: .any :: .any :: .any :: .any :: .any :: .any :: .any :: .any :: .any :: .any :: .any :: .any :: .any :: .any :: .any :: .any :: .any :: .any :: .any :: .any :: .any :: .any :: .any :: .any :: .any :: .any :: .any :: .any :: .any :: .any :: .any :: .any :: [])
theorem list_tak (σ : Heap) {g p q : Nat} {fp : List Nat} {z : GS takF} {x : Fs} (hA : GonAt takF σ g p fp z) (gtq : σ.get q = some (ItO x (.sc (.slice none 0 0)))) (hl : z.s.1.length ≤ 1000000) :
    ACalls Try.prog 85 [.ptr g 0 0 1, .ptr q 0 5 1] σ (fun y σ' => y = .tup [] ∧ ∃ d', ListAt σ' q x d' (takL (tkM z) z []).2 ∧ (∀ r ∈ tOf d', σ.n ≤ r) ∧ GonTo takF σ σ' g p fp [q] ((takL (tkM z) z []).1.needs (decide ((takL (tkM z) z []).2.length ≤ 16)))) := by
  have hM : tkM z ≤ 1000002 := by
    unfold tkM
    split
    · split <;> omega
    · omega
  generalize hR : takL (tkM z) z [] = R
  refine ACalls.code hT Try.func85 rfl ?_
  simp only [Try.ntmps85, List.length_cons, List.length_nil, Nat.reduceSub, Nat.reduceAdd, List.replicate, List.cons_append, List.nil_append]
  repeat (first | (with_reducible first | refine AW.seq ?_ | refine AW.block ?_ | refine AW.skip ?_ | refine AW.ret ?_ | refine AW.exit ?_ | refine AW.reg hT ?_) | ((with_reducible refine AW.cond_true ?_ ?_); · rfl) | ((with_reducible refine AW.cond_false ?_ ?_); · rfl) | simp (maxSteps := 3000000) (maxDischargeDepth := 12) only [seval,push_cast,appendX,Try.results85,ItO,itC,gtq,Heap.lt gtq])
  refine AW.loop (fun m ts σ1 => σ1 = σ ∧ TellsL ts (.ptr g 0 0 1 :: .ptr q 0 5 1 :: .any :: .any :: .any :: .any :: .any :: .any :: .any :: .sc (.int .i64 0) :: .sc (.int .i64 0) :: .any :: .any :: .any :: .any :: .any :: .any :: .any :: .any :: .any :: .any :: .any :: .any :: .any :: .any :: .any :: .any :: .any :: .any :: .any :: .any :: .any :: .any :: .any :: .any :: .any :: .any :: .any :: .any :: .any :: .any :: .any :: .any :: .any :: .any :: .any :: .any :: .any :: .any :: [])) (m := 1) ⟨rfl, by (simp only [push_cast, TellsL, tells_any, tells_refl])⟩ ?_
  rintro m ts σ1 ⟨rfl, hts⟩
  refine AW.told hts ?_
  clear hts
  repeat (first | (with_reducible first | refine AW.seq ?_ | refine AW.block ?_ | refine AW.skip ?_ | refine AW.ret ?_ | refine AW.exit ?_ | refine AW.reg hT ?_) | ((with_reducible refine AW.cond_true ?_ ?_); · rfl) | ((with_reducible refine AW.cond_false ?_ ?_); · rfl) | simp (maxSteps := 3000000) (maxDischargeDepth := 12) only [seval,push_cast,appendX,Try.results85,gtq,Heap.lt gtq])
  refine AW.loop (tkI g q p fp x z σ1) (m := tkM z) ⟨z, [], _, fp, rfl, rfl, by simp, ⟨gtq, .inl ⟨rfl, rfl⟩⟩, hA, Ext.refl _ _, fun _ _ h => h, by simp [tOf], by (simp only [push_cast, TellsL, tells_any, tells_refl])⟩ ?_
  rintro m ts σ2 ⟨z1, L1, d, fp1, rfl, hTk, hlen, ⟨gtq2, hh⟩, hA1, xt1, hn1, hd, hts⟩
  refine AW.told hts ?_
  clear hts
  have gtg2 := hA1.1
  have hq2 := hA1.out gtq2 (.inr rfl)
  have dnl := lenH (ty := 39) hh rfl
  have dncl := hh.cells
  have dnlf := hh.leaf
  have hel : (L1.map eI).length = L1.length := List.length_map ..
  repeat (first | (with_reducible first | refine AW.seq ?_ | refine AW.block ?_ | refine AW.skip ?_ | refine AW.ret ?_ | refine AW.exit ?_ | refine AW.reg hT ?_) | ((with_reducible refine AW.cond_true ?_ ?_); · rfl) | ((with_reducible refine AW.cond_false ?_ ?_); · rfl) | simp (maxSteps := 3000000) (maxDischargeDepth := 12) only [seval,push_cast,appendX,Try.results85,GonO,gtq,Heap.lt gtq,gtq2,Heap.lt gtq2,xt1.2,xt1.ltT,xt1.leT,gtg2,Heap.lt gtg2,↓dnl,↓dncl,↓dnlf])
  refine AOpsL.rule hT rfl (AOp.invoke rfl rfl (takF.mmore) rfl (ACalls.mono (takF.moreOk σ2 p fp1 _ hA1.2.2) ?_))
  rintro y σ3 ⟨rfl, rfl⟩
  by_cases hc : takF.more z1.s = true ∧ z1.ok = true
  · have dc1 := hc.1
    have dc2 := hc.2
    repeat (first | (with_reducible first | refine AW.seq ?_ | refine AW.block ?_ | refine AW.skip ?_ | refine AW.ret ?_ | refine AW.exit ?_ | refine AW.reg hT ?_) | ((with_reducible refine AW.cond_true ?_ ?_); · rfl) | ((with_reducible refine AW.cond_false ?_ ?_); · rfl) | simp (maxSteps := 3000000) (maxDischargeDepth := 12) only [seval,push_cast,appendX,Try.results85,GonO,gtq,Heap.lt gtq,gtq2,Heap.lt gtq2,xt1.2,xt1.ltT,xt1.leT,gtg2,Heap.lt gtg2,↓dnl,↓dncl,↓dnlf,dc1,dc2])
    have hlg := hA1.lt
    have hxp : Ext [] σ3 ((σ3.push ⟨[[.sc (.int .i64 0)]], 3, true⟩).set σ3.n ⟨[[.sc (.int .i64 0)]], 3, true⟩) := by repeat (first | exact Ext.refl _ _ | assumption | refine Ext.push ?_ _ | ((refine Ext.set ?_ ?_ _); rotate_left; · (simp (maxSteps := 3000000) (maxDischargeDepth := 12) only [push_cast, appendX, Nat.reduceAdd, Nat.reduceEqDiff, Nat.reduceLT, Nat.reduceLeDiff, reduceIte, reduceCtorEq, gtq, Heap.lt gtq, gtq2, Heap.lt gtq2, xt1.2, xt1.ltT, xt1.leT, gtg2, Heap.lt gtg2, ↓dnl, ↓dncl, ↓dnlf, dc1, dc2])) | ((refine Ext.then1 (by assumption) ?_ ?_); rotate_left; · (intro p hp _; first | assumption | exact List.mem_cons_of_mem _ hp | (cases hp; done) | (simp at hp; subst hp; simp))))
    have hgp : ((σ3.push ⟨[[.sc (.int .i64 0)]], 3, true⟩).set σ3.n ⟨[[.sc (.int .i64 0)]], 3, true⟩).get σ3.n = some ⟨[[.sc (.int .i64 0)]], 3, true⟩ := by simp (maxSteps := 3000000) (maxDischargeDepth := 12) only [push_cast, appendX, Nat.reduceAdd, Nat.reduceEqDiff, Nat.reduceLT, Nat.reduceLeDiff, reduceIte, reduceCtorEq, gtq, Heap.lt gtq, gtq2, Heap.lt gtq2, xt1.2, xt1.ltT, xt1.leT, gtg2, Heap.lt gtg2, ↓dnl, ↓dncl, ↓dnlf, dc1, dc2]
    have hA2 := hA1.frame hxp (by simp) (by simp)
    have htf : σ3.n ∉ fp1 := fun hm => absurd (hlg.2 _ hm) (by omega)
    refine AOpsL.call (first := []) (cap := []) hT rfl rfl rfl fn87 rfl (ACalls.mono (hop_ok takF _ (k := 0) (z := z1) (t := σ3.n) (i := 0) (j := 0) (m := 1) (v := 0) hA2 trivial (by omega) htf hgp ⟨rfl, rfl, _, rfl, rfl⟩) ?_)
    rintro y σ5 ⟨rfl, gt5, fp2, hA5, xt5, hn5⟩
    have hst := takL_step z1 L1 hc
    rw [hTk] at hst
    have hme := tkM_hop z1 0 hc.2
    revert hA5 gt5 hst hme
    generalize z1.hop 0 = R2
    obtain ⟨z2, v⟩ := R2
    intro gt5 hA5 hst hme
    replace gt5 : σ5.get σ3.n = some ⟨[[.sc (.int .i64 v)]], 3, true⟩ := gt5
    have hl2 := Heap.lt gtq2
    have x35 : Ext (g :: fp1) σ3 σ5 := (hxp.mono (by simp)).then xt5 (fun r hr hlr => by
      simp at hr
      rcases hr with rfl | rfl | hr
      · omega
      · simp
      · simp [hr])
    have gtq5 : σ5.get q = some (ItO x d) := x35.get gtq2 (by simp; exact hq2)
    have hh5 : Hold σ5 d 3 (L1.map eI) := hh.frame x35 (fun r hr hm => by
      rcases List.mem_cons.1 hm with rfl | hm
      · exact hh.ne hA1.1 (by simp [GonO]) hr
      · obtain ⟨o, k1, k2, k3, k4⟩ := takF.tys hA1.2.2 r hm
        exact hh.ne k1 k2 hr)
    have dncl5 := hh5.cells
    have dnlf5 := hh5.leaf
    obtain ⟨d', σ6, dnapp, hh6, xt6, hfp6⟩ := Hold.append (T := T) (ty := 39) (x := .sl σ5.n 0 1 1) (xs := [[.sc (.int .i64 v)]]) (hh5.frame (X := []) (σ' := σ5.push ⟨[[.sc (.int .i64 v)]], 3, true⟩) (by repeat (first | exact Ext.refl _ _ | assumption | refine Ext.push ?_ _ | ((refine Ext.set ?_ ?_ _); rotate_left; · (simp (maxSteps := 3000000) (maxDischargeDepth := 12) only [push_cast, appendX, Nat.reduceAdd, Nat.reduceEqDiff, Nat.reduceLT, Nat.reduceLeDiff, reduceIte, reduceCtorEq, gtq, Heap.lt gtq, gtq2, Heap.lt gtq2, xt1.2, xt1.ltT, xt1.leT, gtg2, Heap.lt gtg2, ↓dnl, ↓dncl, ↓dnlf, dc1, dc2, gt5, Heap.lt gt5, xt5.2, xt5.ltT, xt5.leT, gtq5, Heap.lt gtq5, ↓dncl5, ↓dnlf5])) | ((refine Ext.then1 (by assumption) ?_ ?_); rotate_left; · (intro p hp _; first | assumption | exact List.mem_cons_of_mem _ hp | (cases hp; done) | (simp at hp; subst hp; simp))))) (by simp)) rfl rfl (by decide) (by simp (maxSteps := 3000000) (maxDischargeDepth := 12) only [seval,push_cast,appendX,sliceD,gtq,Heap.lt gtq,gtq2,Heap.lt gtq2,xt1.2,xt1.ltT,xt1.leT,gtg2,Heap.lt gtg2,↓dnl,↓dncl,↓dnlf,dc1,dc2,gt5,Heap.lt gt5,xt5.2,xt5.ltT,xt5.leT,gtq5,Heap.lt gtq5,↓dncl5,↓dnlf5]) (by simp) rfl (by simp; omega)
    have hx56 : Ext (tOf d) σ5 σ6 := ((Ext.refl _ _).push _).then xt6 (fun r hr hlr => hr)
    have hqd : q ∉ tOf d := fun hm => hh.ne gtq2 (by simp [ItO]) hm
    have gtq6 : σ6.get q = some (ItO x d) := hx56.get gtq5 hqd
    have dncl6 := hh6.cells
    have dnlf6 := hh6.leaf
    have hlt6 := Heap.lt gtq6
    repeat (first | (with_reducible first | refine AW.seq ?_ | refine AW.block ?_ | refine AW.skip ?_ | refine AW.ret ?_ | refine AW.exit ?_ | refine AW.reg hT ?_) | ((with_reducible show AW _ (.region 8 _ _) _ _ _); (with_reducible refine AW.drawn (id := 8) hT [0,1,2,3,4,5,6,7,8] [[],[],[1],[1,2],[],[4],[1,2,3,4,5],[0,1,2,3,4,5,6],[0,1,2,3,4,5,6,7]] mix (by kernel_rfl) ?_)) | ((with_reducible show DLeft _ _ _ _ (_ :: _) _ _ _ _); (with_reducible apply DLeft.step hT); (case hoi => ((simp only [List.getElem?_toArray,List.getElem?_cons_zero,List.getElem?_cons_succ]); with_reducible rfl)); (case hg => rfl); (case hk => rfl); (case hr => ((try simp (maxSteps := 3000000) (maxDischargeDepth := 12) only [seval,push_cast,appendX,Try.results85,ItO,itC,gtq,Heap.lt gtq,gtq2,Heap.lt gtq2,xt1.2,xt1.ltT,xt1.leT,gtg2,Heap.lt gtg2,↓dnl,↓dncl,↓dnlf,dc1,dc2,gt5,Heap.lt gt5,xt5.2,xt5.ltT,xt5.leT,gtq5,Heap.lt gtq5,↓dncl5,↓dnlf5,↓dnapp,xt6.2,xt6.ltT,xt6.leT,gtq6,Heap.lt gtq6,↓dncl6,↓dnlf6]); with_reducible rfl))) | ((with_reducible refine AW.cond_true ?_ ?_); · rfl) | ((with_reducible refine AW.cond_false ?_ ?_); · rfl) | simp (maxSteps := 3000000) (maxDischargeDepth := 12) only [seval,push_cast,appendX,Try.results85,ItO,itC,gtq,Heap.lt gtq,gtq2,Heap.lt gtq2,xt1.2,xt1.ltT,xt1.leT,gtg2,Heap.lt gtg2,↓dnl,↓dncl,↓dnlf,dc1,dc2,gt5,Heap.lt gt5,xt5.2,xt5.ltT,xt5.leT,gtq5,Heap.lt gtq5,↓dncl5,↓dnlf5,↓dnapp,xt6.2,xt6.ltT,xt6.leT,gtq6,Heap.lt gtq6,↓dncl6,↓dnlf6])
    have hqn : σ3.n ≤ σ5.n := x35.1
    have hqn2 : σ5.n ≤ σ6.n := hx56.1
    have hn13 : σ1.n ≤ σ3.n := xt1.1
    have hA6 := hA5.frame hx56 (fun hm => hh5.ne hA5.1 (by simp [GonO]) hm) (fun r hr hm => by
      obtain ⟨o, k1, k2, k3, k4⟩ := takF.tys hA5.2.2 r hr
      exact hh5.ne k1 k2 hm)
    have hq6 := hA6.out gtq6 (.inr rfl)
    have hA7 := hA6.frame (X := [q]) (σ' := σ6.set q (ItO x d')) (by repeat (first | exact Ext.refl _ _ | assumption | refine Ext.push ?_ _ | ((refine Ext.set ?_ ?_ _); rotate_left; · (simp (maxSteps := 3000000) (maxDischargeDepth := 12) only [push_cast, appendX, Nat.reduceAdd, Nat.reduceEqDiff, Nat.reduceLT, Nat.reduceLeDiff, reduceIte, reduceCtorEq, gtq, Heap.lt gtq, gtq2, Heap.lt gtq2, xt1.2, xt1.ltT, xt1.leT, gtg2, Heap.lt gtg2, ↓dnl, ↓dncl, ↓dnlf, dc1, dc2, gt5, Heap.lt gt5, xt5.2, xt5.ltT, xt5.leT, gtq5, Heap.lt gtq5, ↓dncl5, ↓dnlf5, ↓dnapp, xt6.2, xt6.ltT, xt6.leT, gtq6, Heap.lt gtq6, ↓dncl6, ↓dnlf6])) | ((refine Ext.then1 (by assumption) ?_ ?_); rotate_left; · (intro p hp _; first | assumption | exact List.mem_cons_of_mem _ hp | (cases hp; done) | (simp at hp; subst hp; simp))))) (by simpa using Ne.symm hq6.1) (fun r hr hm => by simp at hm; subst hm; exact hq6.2 hr)
    have hqd6 : q ∉ tOf d' := fun hm => hh6.ne gtq6 (by simp [ItO]) hm
    refine ⟨tkM z2, by simpa using hme, z2, L1 ++ [v], d', fp2, rfl, hst.symm, by have := hme; simp at this ⊢; omega, ⟨Heap.get_set hlt6, ?_⟩, hA7, ?_, fun r hr hm => ?_, fun r hr => ?_, by (simp only [push_cast, TellsL, tells_any, tells_refl])⟩
    · have h7 := hh6.frame (X := [q]) (σ' := σ6.set q (ItO x d')) (by repeat (first | exact Ext.refl _ _ | assumption | refine Ext.push ?_ _ | ((refine Ext.set ?_ ?_ _); rotate_left; · (simp (maxSteps := 3000000) (maxDischargeDepth := 12) only [push_cast, appendX, Nat.reduceAdd, Nat.reduceEqDiff, Nat.reduceLT, Nat.reduceLeDiff, reduceIte, reduceCtorEq, gtq, Heap.lt gtq, gtq2, Heap.lt gtq2, xt1.2, xt1.ltT, xt1.leT, gtg2, Heap.lt gtg2, ↓dnl, ↓dncl, ↓dnlf, dc1, dc2, gt5, Heap.lt gt5, xt5.2, xt5.ltT, xt5.leT, gtq5, Heap.lt gtq5, ↓dncl5, ↓dnlf5, ↓dnapp, xt6.2, xt6.ltT, xt6.leT, gtq6, Heap.lt gtq6, ↓dncl6, ↓dnlf6])) | ((refine Ext.then1 (by assumption) ?_ ?_); rotate_left; · (intro p hp _; first | assumption | exact List.mem_cons_of_mem _ hp | (cases hp; done) | (simp at hp; subst hp; simp))))) (fun r hr hm => by simp at hm; subst hm; exact hqd6 hr)
      rw [List.map_append]
      exact h7
    · refine Ext.set ?_ (.inr (by simp)) _
      refine (xt1.then x35 (fun r hr hlr => ?_)).then hx56 (fun r hr hlr => absurd (hd r hr) (by omega))
      rcases List.mem_cons.1 hr with rfl | hr
      · simp
      · simp [hn1 r hlr hr]
    · exact hn1 r hr (hn5 r (by simp; omega) hm)
    · rcases Nat.lt_or_ge r (σ5.push ⟨[[.sc (.int .i64 v)]], 3, true⟩).n with h | h
      · exact hd r (hfp6 r h hr)
      · simp at h; omega
  · have hstop : ACalls Try.prog 84 [.ptr g 0 0 1, .sc (.bool (decide ((L1.length : Int) ≤ 16)))] σ3 (fun y σ' => y = .tup [] ∧ ∃ d', ListAt σ' q x d' R.2 ∧ (∀ r ∈ tOf d', σ1.n ≤ r) ∧ GonTo takF σ1 σ' g p fp [q] (R.1.needs (decide (R.2.length ≤ 16)))) := by
      refine (needsT_ok takF σ1 σ3 (Y := [q]) _ hA1 xt1 hn1).mono ?_
      rintro y σ4 ⟨rfl, hx, xt4⟩
      rw [takL_stop z1 L1 hc, hR] at hTk
      subst hTk
      have hdd : decide ((L1.length : Int) ≤ 16) = decide (L1.length ≤ 16) := by apply decide_eq_decide.2; omega
      rw [hdd] at hx
      exact ⟨rfl, d, ⟨xt4.get gtq2 (by simpa using hq2.1), hh.frame xt4 (fun r hr hm => by simp at hm; subst hm; exact hh.ne hA1.1 (by simp [GonO]) hr)⟩, hd, hx⟩
    by_cases h1 : takF.more z1.s = true
    · have h2 : z1.ok = false := by cases h : z1.ok; rfl; exact absurd ⟨h1, h⟩ hc
      repeat (first | (with_reducible first | refine AW.seq ?_ | refine AW.block ?_ | refine AW.skip ?_ | refine AW.ret ?_ | refine AW.exit ?_ | refine AW.reg hT ?_) | ((with_reducible refine AW.cond_true ?_ ?_); · rfl) | ((with_reducible refine AW.cond_false ?_ ?_); · rfl) | simp (maxSteps := 3000000) (maxDischargeDepth := 12) only [seval,push_cast,appendX,Try.results85,GonO,ItO,itC,h1,h2,hel,gtq,Heap.lt gtq,gtq2,Heap.lt gtq2,xt1.2,xt1.ltT,xt1.leT,gtg2,Heap.lt gtg2,↓dnl,↓dncl,↓dnlf])
      refine AOpsL.call (first := []) (cap := []) hT rfl rfl rfl fn84 rfl (ACalls.mono (hstop) ?_)
      rintro y σ4 ⟨rfl, hx⟩
      repeat (first | (with_reducible first | refine AW.seq ?_ | refine AW.block ?_ | refine AW.skip ?_ | refine AW.ret ?_ | refine AW.exit ?_ | refine AW.reg hT ?_) | ((with_reducible refine AW.cond_true ?_ ?_); · rfl) | ((with_reducible refine AW.cond_false ?_ ?_); · rfl) | simp (maxSteps := 3000000) (maxDischargeDepth := 12) only [seval,push_cast,appendX,Try.results85,gtq,Heap.lt gtq,gtq2,Heap.lt gtq2,xt1.2,xt1.ltT,xt1.leT,gtg2,Heap.lt gtg2,↓dnl,↓dncl,↓dnlf])
      exact hx
    · have h1' : takF.more z1.s = false := by simpa using h1
      repeat (first | (with_reducible first | refine AW.seq ?_ | refine AW.block ?_ | refine AW.skip ?_ | refine AW.ret ?_ | refine AW.exit ?_ | refine AW.reg hT ?_) | ((with_reducible refine AW.cond_true ?_ ?_); · rfl) | ((with_reducible refine AW.cond_false ?_ ?_); · rfl) | simp (maxSteps := 3000000) (maxDischargeDepth := 12) only [seval,push_cast,appendX,Try.results85,GonO,ItO,itC,h1',hel,gtq,Heap.lt gtq,gtq2,Heap.lt gtq2,xt1.2,xt1.ltT,xt1.leT,gtg2,Heap.lt gtg2,↓dnl,↓dncl,↓dnlf])
      refine AOpsL.call (first := []) (cap := []) hT rfl rfl rfl fn84 rfl (ACalls.mono (hstop) ?_)
      rintro y σ4 ⟨rfl, hx⟩
      repeat (first | (with_reducible first | refine AW.seq ?_ | refine AW.block ?_ | refine AW.skip ?_ | refine AW.ret ?_ | refine AW.exit ?_ | refine AW.reg hT ?_) | ((with_reducible refine AW.cond_true ?_ ?_); · rfl) | ((with_reducible refine AW.cond_false ?_ ?_); · rfl) | simp (maxSteps := 3000000) (maxDischargeDepth := 12) only [seval,push_cast,appendX,Try.results85,gtq,Heap.lt gtq,gtq2,Heap.lt gtq2,xt1.2,xt1.ltT,xt1.leT,gtg2,Heap.lt gtg2,↓dnl,↓dncl,↓dnlf])
      exact hx
inductive Stp where
  | fix (n : Nat) (u : Int)
  | node (j : Nat)
  | int (n j : Nat) (top : Int)
  | raw (n j : Nat)
def Fs.get (x : Fs) : Nat → Int
  | 1 => x.a
  | 2 => x.b
  | 3 => x.c
  | 4 => x.u
  | 6 => x.bw
  | 7 => x.su
  | 8 => x.ho
  | 9 => x.an
  | 10 => x.al
  | 11 => x.no
  | _ => 0
def Fs.set (x : Fs) (v : Int) : Nat → Fs
  | 1 => { x with a := v }
  | 2 => { x with b := v }
  | 3 => { x with c := v }
  | 4 => { x with u := v }
  | 6 => { x with bw := v }
  | 7 => { x with su := v }
  | 8 => { x with ho := v }
  | 9 => { x with an := v }
  | 10 => { x with al := v }
  | 11 => { x with no := v }
  | _ => x
def isF (j : Nat) : Prop := j = 1 ∨ j = 2 ∨ j = 3 ∨ j = 4 ∨ j = 6 ∨ j = 7 ∨ j = 8 ∨ j = 9 ∨ j = 10 ∨ j = 11
theorem Fs.set_get (x : Fs) (j : Nat) : x.set (x.get j) j = x := by
  obtain ⟨_, _, _, _, _, _, _, _, _, _, _⟩ := x
  unfold Fs.set Fs.get
  split <;> rfl
theorem Fs.get_set (x : Fs) (v : Int) {j : Nat} (h : isF j) : (x.set v j).get j = v := by
  rcases h with rfl | rfl | rfl | rfl | rfl | rfl | rfl | rfl | rfl | rfl <;> rfl
theorem Fs.get_set_ne (x : Fs) (v : Int) {j k : Nat} (h : k ≠ j) : (x.set v j).get k = x.get k := by
  unfold Fs.set
  split <;> (unfold Fs.get; split <;> first | rfl | omega)
theorem Fs.cls_set (x : Fs) (v : Int) (j : Nat) : (x.set v j).cls = x.cls := by
  unfold Fs.set
  split <;> rfl
theorem Fs.ext_get {x y : Fs} (h : x.cls = y.cls) (hg : ∀ j, isF j → x.get j = y.get j) : x = y := by
  have h1 := hg 1 (by simp [isF])
  have h2 := hg 2 (by simp [isF])
  have h3 := hg 3 (by simp [isF])
  have h4 := hg 4 (by simp [isF])
  have h6 := hg 6 (by simp [isF])
  have h7 := hg 7 (by simp [isF])
  have h8 := hg 8 (by simp [isF])
  have h9 := hg 9 (by simp [isF])
  have h10 := hg 10 (by simp [isF])
  have h11 := hg 11 (by simp [isF])
  obtain ⟨_, _, _, _, _, _, _, _, _, _, _⟩ := x
  obtain ⟨_, _, _, _, _, _, _, _, _, _, _⟩ := y
  simp only [Fs.get] at h h1 h2 h3 h4 h6 h7 h8 h9 h10 h11
  subst h h1 h2 h3 h4 h6 h7 h8 h9 h10 h11
  rfl
def GS.stp {F : Form} (z : GS F) (x : Fs) : Stp → GS F × Fs
  | .fix n u => (z.fix n u, x)
  | .node j => ((z.node (x.get j)).1, x.set (z.node (x.get j)).2 j)
  | .int n j top => ((z.int n (x.get j) top).1, x.set (z.int n (x.get j) top).2 j)
  | .raw n j => (⟨z.ok, (F.num z.s n (x.get j)).1⟩, x.set (F.num z.s n (x.get j)).2 j)
def GS.run {F : Form} : GS F → Fs → List Stp → GS F × Fs
  | z, x, [] => (z, x)
  | z, x, a :: l => GS.run (z.stp x a).1 (z.stp x a).2 l
def Stp.fld : Stp → List Nat
  | .fix _ _ => []
  | .node j => [j]
  | .int _ j _ => [j]
  | .raw _ j => [j]
def flds (l : List Stp) : List Nat := l.flatMap Stp.fld
def Stp.sound : Stp → Prop
  | .fix n u => 1 ≤ n ∧ n ≤ 8 ∧ 0 ≤ u ∧ u < 256 ^ n
  | .node j => isF j
  | .int n j top => 1 ≤ n ∧ n ≤ 4 ∧ top < 256 ^ n ∧ isF j
  | .raw n j => 1 ≤ n ∧ n ≤ 8 ∧ isF j
def bts (x : Fs) : Stp → List Int
  | .fix n u => digits n u
  | .node j => digits 4 (167772160 + x.get j)
  | .int n j _ => digits n (x.get j)
  | .raw n j => digits n (x.get j)
def okS (x : Fs) : Stp → Prop
  | .fix _ _ => True
  | .node j => 0 ≤ x.get j ∧ x.get j < 16
  | .int _ j top => 0 ≤ x.get j ∧ x.get j ≤ top
  | .raw n j => 0 ≤ x.get j ∧ x.get j < 256 ^ n
def btsL (x : Fs) (l : List Stp) : List Int := l.flatMap (bts x)
theorem lay_fix {n : Nat} {u : Int} (s : List Int) (o b : Bool) (hf : fitN n u) : GS.fix (F := layF) ⟨b, (s, o)⟩ n u = ⟨b, (s ++ digits n u, o)⟩ := by
  simp only [GS.fix, layF, layN, hf, if_true]; simp
theorem lay_node {v : Int} (s : List Int) (o b : Bool) (h : 0 ≤ v ∧ v < 16) : GS.node (F := layF) ⟨b, (s, o)⟩ v = (⟨b, (s ++ digits 4 (167772160 + v), o)⟩, v) := by
  have hf : fitN 4 (167772160 + v) := fun _ => by simp; omega
  have hv : ¬ (v < 0 ∨ 16 ≤ v) := by omega
  have e1 : 167772160 + v - 167772160 = v := by omega
  simp only [GS.node, hv, if_false, layF, layN, hf, if_true, e1]
  simp [h.1, h.2]
theorem lay_int {n : Nat} {v top : Int} (s : List Int) (o b : Bool) (h : 0 ≤ v ∧ v ≤ top) (ht : top < 256 ^ n) : GS.int (F := layF) ⟨b, (s, o)⟩ n v top = (⟨b, (s ++ digits n v, o)⟩, v) := by
  have hf : fitN n v := fun _ => by omega
  have hv : ¬ (v < 0) := by omega
  simp only [GS.int, hv, if_false, layF, layN, hf, if_true]
  simp [h.2]
/-- What is laid. -/
theorem lay_run : ∀ (l : List Stp) (x : Fs) (s : List Int) (b o : Bool), (∀ a ∈ l, a.sound ∧ okS x a) → GS.run (F := layF) ⟨b, (s, o)⟩ x l = (⟨b, (s ++ btsL x l, o)⟩, x)
  | [], x, s, b, o, h => by simp [GS.run, btsL]
  | a :: l, x, s, b, o, h => by
    obtain ⟨h1, h2⟩ := h a (by simp)
    have hr := fun s => lay_run l x s b o (fun c hc => h c (List.mem_cons_of_mem _ hc))
    have key : GS.stp (F := layF) ⟨b, (s, o)⟩ x a = (⟨b, (s ++ bts x a, o)⟩, x) := by
      cases a with
      | fix n u =>
        have hf : fitN n u := fun _ => h1.2.2.2
        simp only [GS.stp, lay_fix s o b hf, bts]
      | node j => simp only [GS.stp, lay_node s o b h2, bts, Fs.set_get]
      | int n j top => simp only [GS.stp, lay_int s o b h2 h1.2.2.1, bts, Fs.set_get]
      | raw n j =>
        have hf : fitN n (x.get j) := fun _ => h2.2
        simp only [GS.stp, layF, layN, hf, if_true, bts, Fs.set_get]
    simp only [GS.run, key]
    rw [hr]
    simp [btsL, List.append_assoc]
theorem takN_digits {n : Nat} {v u : Int} (r : List Int) (h0 : 0 ≤ v) (h1 : v < 256 ^ n) : takN (digits n v ++ r, 0) n u = ((r, 0), v) := by
  have hl := digits_length n v
  rw [takN_0, if_neg (by simp [hl])]
  have e1 : (digits n v ++ r).drop n = r := by rw [List.drop_append, hl]; simp [List.drop_of_length_le, hl]
  have e2 : (digits n v ++ r).take n = digits n v := by rw [List.take_append, hl]; simp [List.take_of_length_le, hl]
  rw [e1, e2, num_digits h0 h1]
def updF (x : Fs) : List Nat → Fs → Fs
  | [], y => y
  | j :: js, y => updF x js (y.set (x.get j) j)
/-- What is taken from what was laid. -/
theorem tak_run : ∀ (l : List Stp) (x y : Fs) (r : List Int) (b : Bool), (flds l).Nodup → (∀ a ∈ l, a.sound ∧ okS x a) → (∀ j ∈ flds l, y.get j = 0) → GS.run (F := takF) ⟨b, (btsL x l ++ r, 0)⟩ y l = (⟨b, (r, 0)⟩, updF x (flds l) y)
  | [], x, y, r, b, hd, h, hy => by simp [GS.run, btsL, flds, updF]
  | a :: l, x, y, r, b, hd, h, hy => by
    obtain ⟨h1, h2⟩ := h a (by simp)
    have hd' : (flds l).Nodup := by
      have : flds (a :: l) = a.fld ++ flds l := by simp [flds]
      rw [this] at hd
      exact (List.nodup_append.1 hd).2.1
    have hr := fun y hy => tak_run l x y r b hd' (fun c hc => h c (List.mem_cons_of_mem _ hc)) hy
    have hsp : btsL x (a :: l) ++ r = bts x a ++ (btsL x l ++ r) := by simp [btsL, List.append_assoc]
    have hfl : flds (a :: l) = a.fld ++ flds l := by simp [flds]
    have hne : ∀ j ∈ a.fld, ∀ k ∈ flds l, k ≠ j := fun j hj k hk e => by
      rw [hfl] at hd
      exact (List.nodup_append.1 hd).2.2 j hj k hk e.symm
    rw [hsp]
    simp only [GS.run]
    cases a with
    | fix n u =>
      have e : GS.fix (F := takF) ⟨b, (digits n u ++ (btsL x l ++ r), 0)⟩ n u = ⟨b, (btsL x l ++ r, 0)⟩ := by
        have := takN_digits (u := u) (btsL x l ++ r) h1.2.2.1 h1.2.2.2
        simp only [GS.fix, takF, this]; simp
      simp only [GS.stp, bts, e]
      rw [hr y (fun j hj => hy j (by rw [hfl]; exact List.mem_append_right _ hj))]
      rfl
    | node j =>
      have hj0 : y.get j = 0 := hy j (by rw [hfl]; simp [Stp.fld])
      have e : GS.node (F := takF) ⟨b, (digits 4 (167772160 + x.get j) ++ (btsL x l ++ r), 0)⟩ 0 = (⟨b, (btsL x l ++ r, 0)⟩, x.get j) := by
        have := takN_digits (n := 4) (v := 167772160 + x.get j) (u := 167772160) (btsL x l ++ r) (by have := h2.1; omega) (by have := h2.2; simp; omega)
        have e1 : 167772160 + x.get j - 167772160 = x.get j := by omega
        have h0 : ¬ ((0 : Int) < 0 ∨ (16 : Int) ≤ 0) := by omega
        simp only [GS.node, h0, if_false, takF, Int.add_zero, this, e1]
        simp [h2.1, h2.2]
      simp only [GS.stp, bts, hj0, e]
      rw [hr _ (fun k hk => by rw [Fs.get_set_ne _ _ (hne j (by simp [Stp.fld]) k hk)]; exact hy k (by rw [hfl]; exact List.mem_append_right _ hk))]
      rfl
    | int n j top =>
      have hj0 : y.get j = 0 := hy j (by rw [hfl]; simp [Stp.fld])
      have e : GS.int (F := takF) ⟨b, (digits n (x.get j) ++ (btsL x l ++ r), 0)⟩ n 0 top = (⟨b, (btsL x l ++ r, 0)⟩, x.get j) := by
        have := takN_digits (n := n) (v := x.get j) (u := 0) (btsL x l ++ r) h2.1 (Int.lt_of_le_of_lt h2.2 h1.2.2.1)
        have h0 : ¬ ((0 : Int) < 0) := by omega
        simp only [GS.int, h0, if_false, takF, this]
        simp [h2.2]
      simp only [GS.stp, bts, hj0, e]
      rw [hr _ (fun k hk => by rw [Fs.get_set_ne _ _ (hne j (by simp [Stp.fld]) k hk)]; exact hy k (by rw [hfl]; exact List.mem_append_right _ hk))]
      rfl
    | raw n j =>
      have hj0 : y.get j = 0 := hy j (by rw [hfl]; simp [Stp.fld])
      have e := takN_digits (n := n) (v := x.get j) (u := y.get j) (btsL x l ++ r) h2.1 h2.2
      simp only [GS.stp, bts, takF, e]
      have hr' := hr (y.set (x.get j) j) (fun k hk => by rw [Fs.get_set_ne _ _ (hne j (by simp [Stp.fld]) k hk)]; exact hy k (by rw [hfl]; exact List.mem_append_right _ hk))
      exact hr'
theorem updF_get (x : Fs) : ∀ (js : List Nat) (y : Fs) (k : Nat), isF k → (updF x js y).get k = if k ∈ js then x.get k else y.get k
  | [], y, k, h => by simp [updF]
  | j :: js, y, k, h => by
    simp only [updF]
    rw [updF_get x js _ k h]
    by_cases e : k = j
    · subst e
      rw [Fs.get_set _ _ h]; simp
    · rw [Fs.get_set_ne _ _ e]; simp [e]
theorem updF_cls (x : Fs) : ∀ (js : List Nat) (y : Fs), (updF x js y).cls = y.cls
  | [], y => rfl
  | j :: js, y => by simp only [updF]; rw [updF_cls x js, Fs.cls_set]
/-- If what was laid says everything. -/
theorem updF_all {x y : Fs} {js : List Nat} (hc : x.cls = y.cls) (h : ∀ k, isF k → k ∉ js → x.get k = y.get k) : updF x js y = x := by
  refine Fs.ext_get (by rw [updF_cls, hc]) (fun k hk => ?_)
  rw [updF_get x js y k hk]
  split
  · rfl
  · rename_i hm; exact (h k hk hm).symm
/-! What was taken well. -/
theorem stp_ok {F : Form} (z : GS F) (x : Fs) (a : Stp) (h : (z.stp x a).1.ok = true) : z.ok = true := by
  cases a with
  | fix n u => simp only [GS.stp, GS.fix, Bool.and_eq_true] at h; exact h.1
  | node j =>
    simp only [GS.stp, GS.node] at h
    split at h
    · cases h
    · simp only [Bool.and_eq_true] at h; exact h.1
  | int n j top =>
    simp only [GS.stp, GS.int] at h
    split at h
    · cases h
    · simp only [Bool.and_eq_true] at h; exact h.1
  | raw n j => exact h
theorem run_ok {F : Form} : ∀ (l : List Stp) (z : GS F) (x : Fs), (z.run x l).1.ok = true → z.ok = true
  | [], z, x, h => h
  | a :: l, z, x, h => stp_ok z x a (run_ok l _ _ h)
theorem stp_err (z : GS takF) (x : Fs) (a : Stp) (h : (z.stp x a).1.s.2 = 0) : z.s.2 = 0 := by
  cases a with
  | fix n u => exact (takN_len z.s n u h).1
  | node j =>
    simp only [GS.stp, GS.node] at h
    split at h
    · exact h
    · exact (takN_len z.s 4 (167772160 + x.get j) h).1
  | int n j top =>
    simp only [GS.stp, GS.int] at h
    split at h
    · exact h
    · exact (takN_len z.s n (x.get j) h).1
  | raw n j => exact (takN_len z.s n (x.get j) h).1
theorem run_err : ∀ (l : List Stp) (z : GS takF) (x : Fs), (z.run x l).1.s.2 = 0 → z.s.2 = 0
  | [], z, x, h => h
  | a :: l, z, x, h => stp_err z x a (run_err l _ _ h)
theorem stp_keeps {F : Form} (z : GS F) (x : Fs) (a : Stp) {k : Nat} (h : k ∉ a.fld) : (z.stp x a).2.get k = x.get k := by
  cases a with
  | fix n u => rfl
  | node j => simp only [GS.stp]; exact Fs.get_set_ne _ _ (by simpa [Stp.fld] using h)
  | int n j top => simp only [GS.stp]; exact Fs.get_set_ne _ _ (by simpa [Stp.fld] using h)
  | raw n j => simp only [GS.stp]; exact Fs.get_set_ne _ _ (by simpa [Stp.fld] using h)
theorem run_keeps {F : Form} : ∀ (l : List Stp) (z : GS F) (x : Fs) {k : Nat}, k ∉ flds l → (z.run x l).2.get k = x.get k
  | [], z, x, k, h => rfl
  | a :: l, z, x, k, h => by
    have h' : k ∉ a.fld ∧ k ∉ flds l := by simpa [flds] using h
    simp only [GS.run]
    rw [run_keeps l _ _ h'.2, stp_keeps z x a h'.1]
theorem stp_cls {F : Form} (z : GS F) (x : Fs) (a : Stp) : (z.stp x a).2.cls = x.cls := by
  cases a with
  | fix n u => rfl
  | node j => exact Fs.cls_set _ _ _
  | int n j top => exact Fs.cls_set _ _ _
  | raw n j => exact Fs.cls_set _ _ _
theorem run_cls {F : Form} : ∀ (l : List Stp) (z : GS F) (x : Fs), (z.run x l).2.cls = x.cls
  | [], z, x => rfl
  | a :: l, z, x => by simp only [GS.run]; rw [run_cls l, stp_cls]
theorem take_digits {l : List Int} {n : Nat} (ho : Octs l) (h : n ≤ l.length) : digits n (num (l.take n)) = l.take n ∧ 0 ≤ num (l.take n) ∧ num (l.take n) < 256 ^ n := by
  have hl : (l.take n).length = n := by simp; omega
  have h1 := digits_num (ho.take n)
  have h2 := num_bound (ho.take n)
  rw [hl] at h1 h2
  exact ⟨h1, h2⟩
theorem tak_back : ∀ (l : List Stp) (y : Fs) (b : List Int), Octs b → (flds l).Nodup → (∀ a ∈ l, a.sound) → (∀ j ∈ flds l, y.get j = 0) → (GS.run (F := takF) ⟨true, (b, 0)⟩ y l).1.ok = true → (GS.run (F := takF) ⟨true, (b, 0)⟩ y l).1.s.2 = 0 →
    b = btsL (GS.run (F := takF) ⟨true, (b, 0)⟩ y l).2 l ++ (GS.run (F := takF) ⟨true, (b, 0)⟩ y l).1.s.1 ∧ (∀ a ∈ l, okS (GS.run (F := takF) ⟨true, (b, 0)⟩ y l).2 a)
  | [], y, b, ho, hd, hs, hy, h1, h2 => by simp [GS.run, btsL]
  | a :: l, y, b, ho, hd, hs, hy, h1, h2 => by
    have hfl : flds (a :: l) = a.fld ++ flds l := by simp [flds]
    have hd' : (flds l).Nodup := by
      rw [hfl] at hd
      exact (List.nodup_append.1 hd).2.1
    have hne : ∀ j ∈ a.fld, j ∉ flds l := fun j hj hk => by
      rw [hfl] at hd
      exact (List.nodup_append.1 hd).2.2 j hj j hk rfl
    have hsa := hs a (by simp)
    have hr := tak_back l
    simp only [GS.run] at h1 h2 ⊢
    have k1 := run_ok l _ _ h1
    have k2 := run_err l _ _ h2
    have hkeep : ∀ j ∈ a.fld, (GS.run (F := takF) (GS.stp ⟨true, (b, 0)⟩ y a).1 (GS.stp (F := takF) ⟨true, (b, 0)⟩ y a).2 l).2.get j = (GS.stp (F := takF) ⟨true, (b, 0)⟩ y a).2.get j := fun j hj => run_keeps l _ _ (hne j hj)
    have hy' : ∀ j ∈ flds l, (GS.stp (F := takF) ⟨true, (b, 0)⟩ y a).2.get j = 0 := fun j hj => by
      rw [stp_keeps _ _ _ (fun hm => hne j hm hj)]
      exact hy j (by rw [hfl]; exact List.mem_append_right _ hj)
    have main : ∃ n, n ≤ b.length ∧ (GS.stp (F := takF) ⟨true, (b, 0)⟩ y a).1 = ⟨true, (b.drop n, 0)⟩ ∧ (∀ x : Fs, (∀ j ∈ a.fld, x.get j = (GS.stp (F := takF) ⟨true, (b, 0)⟩ y a).2.get j) → bts x a = b.take n ∧ okS x a) := by
      cases a with
      | fix n u =>
        obtain ⟨_, g1, g2, g3⟩ := takN_len (b, 0) n u k2
        obtain ⟨t1, t2, t3⟩ := take_digits ho g1
        have k1' : ((takN (b, 0) n u).2 == u) = true := by simpa [GS.stp, GS.fix, takF] using k1
        refine ⟨n, g1, ?_, fun x hx => ⟨?_, trivial⟩⟩
        · simp only [GS.stp, GS.fix, takF]
          rw [k1']
          have : (takN (b, 0) n u).1 = (b.drop n, 0) := Prod.ext g2 k2
          rw [this]; rfl
        · have : num (b.take n) = u := by rw [← g3]; simpa using k1'
          simp only [bts]; rw [← this]; exact t1
      | node j =>
        have hj0 : y.get j = 0 := hy j (by rw [hfl]; simp [Stp.fld])
        have h0 : ¬ ((0 : Int) < 0 ∨ (16 : Int) ≤ 0) := by omega
        simp only [GS.stp, GS.node, hj0, h0, if_false, Int.add_zero] at k1 k2 ⊢
        obtain ⟨_, g1, g2, g3⟩ := takN_len (b, 0) 4 167772160 k2
        obtain ⟨t1, t2, t3⟩ := take_digits ho g1
        have e1 : takF.num (b, 0) 4 167772160 = ((b.drop 4, 0), num (b.take 4)) := Prod.ext (Prod.ext g2 k2) g3
        rw [e1] at k1 ⊢
        simp only [Bool.true_and, Bool.and_eq_true, decide_eq_true_eq] at k1
        refine ⟨4, g1, by rw [decide_eq_true k1.1, decide_eq_true k1.2]; rfl, fun x hx => ?_⟩
        have hxj := hx j (by simp [Stp.fld])
        rw [Fs.get_set _ _ hsa] at hxj
        have e2 : 167772160 + x.get j = num (b.take 4) := by omega
        refine ⟨?_, by simp only [okS]; omega⟩
        simp only [bts, e2]; exact t1
      | int n j top =>
        have hj0 : y.get j = 0 := hy j (by rw [hfl]; simp [Stp.fld])
        have h0 : ¬ ((0 : Int) < 0) := by omega
        simp only [GS.stp, GS.int, hj0, h0, if_false] at k1 k2 ⊢
        obtain ⟨_, g1, g2, g3⟩ := takN_len (b, 0) n 0 k2
        obtain ⟨t1, t2, t3⟩ := take_digits ho g1
        have e1 : takF.num (b, 0) n 0 = ((b.drop n, 0), num (b.take n)) := Prod.ext (Prod.ext g2 k2) g3
        rw [e1] at k1 ⊢
        simp only [Bool.true_and, decide_eq_true_eq] at k1
        refine ⟨n, g1, by simp [k1], fun x hx => ?_⟩
        have hxj := hx j (by simp [Stp.fld])
        rw [Fs.get_set _ _ hsa.2.2.2] at hxj
        refine ⟨?_, by simp only [okS]; rw [hxj]; exact ⟨t2, k1⟩⟩
        simp only [bts, hxj]; exact t1
      | raw n j =>
        simp only [GS.stp] at k1 k2 ⊢
        obtain ⟨_, g1, g2, g3⟩ := takN_len (b, 0) n (y.get j) k2
        obtain ⟨t1, t2, t3⟩ := take_digits ho g1
        have e1 : takF.num (b, 0) n (y.get j) = ((b.drop n, 0), num (b.take n)) := Prod.ext (Prod.ext g2 k2) g3
        rw [e1]
        refine ⟨n, g1, rfl, fun x hx => ?_⟩
        have hxj := hx j (by simp [Stp.fld])
        rw [Fs.get_set _ _ hsa.2.2] at hxj
        refine ⟨?_, by simp only [okS]; rw [hxj]; exact ⟨t2, t3⟩⟩
        simp only [bts, hxj]; exact t1
    obtain ⟨n, hn, hz, hb⟩ := main
    obtain ⟨r1, r2⟩ := hr (GS.stp (F := takF) ⟨true, (b, 0)⟩ y a).2 (b.drop n) (ho.drop n) hd' (fun c hc => hs c (List.mem_cons_of_mem _ hc)) hy' (by rw [← hz]; exact h1) (by rw [← hz]; exact h2)
    rw [← hz] at r1 r2
    obtain ⟨b1, b2⟩ := hb _ hkeep
    refine ⟨?_, fun c hc => ?_⟩
    · have hsp : ∀ x r, btsL x (a :: l) ++ r = bts x a ++ (btsL x l ++ r) := fun x r => by simp [btsL, List.append_assoc]
      rw [hsp, b1, ← r1, List.take_append_drop]
    · rcases List.mem_cons.1 hc with rfl | hc
      · exact b2
      · exact r2 c hc
end Go.Proofs.Ytdkhlhfdjggbpaa.Cm
