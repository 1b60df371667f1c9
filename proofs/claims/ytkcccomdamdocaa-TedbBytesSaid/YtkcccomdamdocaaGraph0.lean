/- Package graph's Check, and the document's Find and Check. -/
import Derived.Test.YtkcccomdamdocaaGraphK
namespace Go.Proofs.Ytkcccomdamdocaa.Cm
open Go.RowKit
set_option linter.unusedVariables false
set_option linter.unusedSimpArgs false
set_option maxRecDepth 20000
set_option maxHeartbeats 8000000
abbrev Lk := S37
abbrev eK := e37
abbrev wK := w37
theorem eK_eq (x : Lk) : eK x = [.sc (.int .i64 x.f0), .sc (.int .i64 x.f1), .sc (.int .u64 x.f2), .sc (.int .i64 x.f3), .sc (.int .u32 x.f4)] := rfl
def lkOk (n : Int) (x : Lk) : Prop := 0 ≤ x.f0 ∧ x.f0 < n ∧ 0 ≤ x.f1 ∧ x.f1 < n ∧ x.f0 ≠ x.f1 ∧ 1 ≤ x.f3 ∧ x.f3 ≤ 65535
instance (n : Int) (x : Lk) : Decidable (lkOk n x) := by unfold lkOk; infer_instance
def sameEnds (x y : Lk) : Prop := x.f0 = y.f0 ∧ x.f1 = y.f1
instance (x y : Lk) : Decidable (sameEnds x y) := by unfold sameEnds; infer_instance
def ckOk (n : Int) (l : List Lk) : Prop := (∀ x ∈ l, lkOk n x) ∧ l.Pairwise (fun x y => ¬ sameEnds x y)
instance (n : Int) (l : List Lk) : Decidable (ckOk n l) := by unfold ckOk; infer_instance
def chk (n : Int) (l : List Lk) : Int := if n < 1 ∨ 16 < n then 2 else if 64 < l.length then 3 else if ckOk n l then 0 else 2
theorem ckOk_take (n : Int) (l : List Lk) (i : Nat) (hi : i < l.length) : ckOk n (l.take (i + 1)) ↔ ckOk n (l.take i) ∧ lkOk n l[i] ∧ ∀ y ∈ l.take i, ¬ sameEnds y l[i] := by
  rw [List.take_add_one, List.getElem?_eq_getElem hi, Option.toList_some]
  unfold ckOk
  rw [List.pairwise_append]
  constructor
  · rintro ⟨h1, h2, h3, h4⟩
    exact ⟨⟨fun x hx => h1 x (List.mem_append_left _ hx), h2⟩, h1 _ (List.mem_append_right _ (by simp)), fun y hy => h4 y hy _ (List.mem_singleton.2 rfl)⟩
  · rintro ⟨⟨h1, h2⟩, h3, h4⟩
    refine ⟨fun x hx => ?_, h2, by simp, fun a ha b hb => ?_⟩
    · rcases List.mem_append.1 hx with hx | hx
      · exact h1 x hx
      · rw [List.mem_singleton.1 hx]; exact h3
    · rw [List.mem_singleton.1 hb]; exact h4 a ha
theorem ckOk_of (n : Int) (l : List Lk) (i : Nat) (h : ckOk n l) : ckOk n (l.take i) := ⟨fun x hx => h.1 x (List.mem_of_mem_take hx), h.2.sublist (List.take_sublist _ _)⟩
theorem zero_int (w : World) : (zeroValue 3).run Try.prog w = .ok (.int .i64 0) w := by
  have h : (Try.prog.info? 3).bind (·.zero) = some (.int .i64 0) := by kernel_rfl
  cases hi : Try.prog.info? 3 with
  | none => rw [hi] at h; cases h
  | some i => rw [hi] at h; simp at h; simp [zeroValue, typeInfo, hi, h]
theorem node_ok (σ : Heap) {p : Nat} (n v : Int) (gtp : σ.get p = some ⟨[[.sc (.int .i64 n)]], 3, true⟩) :
    ACalls Try.prog 43 [.sc (.int .i64 v), .ptr p 0 0 1] σ (fun x σ' => x = .sc (.bool (decide (0 ≤ v ∧ v < n))) ∧ σ' = σ) := by
  refine ACalls.code hT Try.func43 rfl ?_
  simp only [Try.ntmps43, List.length_cons, List.length_nil, Nat.reduceSub, Nat.reduceAdd, List.replicate, List.cons_append, List.nil_append]
  by_cases hA0 : 0 ≤ v
  · have dcA0 : decide (0 ≤ v) = true := by simpa using hA0
    by_cases hA1 : v < n
    · have dcA1 : decide (v < n) = true := by simpa using hA1
      repeat (first | (with_reducible refine AW.seq ?_) | (with_reducible refine AW.block ?_) | (with_reducible refine AW.skip ?_) | (with_reducible refine AW.ret ?_) | (with_reducible refine AW.exit ?_) | (with_reducible refine AW.reg hT ?_) | ((with_reducible refine AW.cond_true ?_ ?_); · rfl) | ((with_reducible refine AW.cond_false ?_ ?_); · rfl) | simp (maxSteps := 3000000) (maxDischargeDepth := 12) only [push_cast,appendX,reduceIte,reduceCtorEq,Nat.reduceSub,Nat.reduceAdd,Nat.reduceMul,Nat.reduceLT,Nat.reduceLeDiff,Nat.reduceEqDiff,Nat.reduceBEq,Int.reduceToNat,Int.reduceLT,Int.reduceLE,Int.reduceEq,Int.reduceNeg,Try.results43,gtp,Heap.lt gtp,dcA0,dcA1])
      simp [*] <;> omega
    · have dcA1 : decide (v < n) = false := by simpa using hA1
      repeat (first | (with_reducible refine AW.seq ?_) | (with_reducible refine AW.block ?_) | (with_reducible refine AW.skip ?_) | (with_reducible refine AW.ret ?_) | (with_reducible refine AW.exit ?_) | (with_reducible refine AW.reg hT ?_) | ((with_reducible refine AW.cond_true ?_ ?_); · rfl) | ((with_reducible refine AW.cond_false ?_ ?_); · rfl) | simp (maxSteps := 3000000) (maxDischargeDepth := 12) only [push_cast,appendX,reduceIte,reduceCtorEq,Nat.reduceSub,Nat.reduceAdd,Nat.reduceMul,Nat.reduceLT,Nat.reduceLeDiff,Nat.reduceEqDiff,Nat.reduceBEq,Int.reduceToNat,Int.reduceLT,Int.reduceLE,Int.reduceEq,Int.reduceNeg,Try.results43,gtp,Heap.lt gtp,dcA0,dcA1])
      simp [*] <;> omega
  · have dcA0 : decide (0 ≤ v) = false := by simpa using hA0
    repeat (first | (with_reducible refine AW.seq ?_) | (with_reducible refine AW.block ?_) | (with_reducible refine AW.skip ?_) | (with_reducible refine AW.ret ?_) | (with_reducible refine AW.exit ?_) | (with_reducible refine AW.reg hT ?_) | ((with_reducible refine AW.cond_true ?_ ?_); · rfl) | ((with_reducible refine AW.cond_false ?_ ?_); · rfl) | simp (maxSteps := 3000000) (maxDischargeDepth := 12) only [push_cast,appendX,reduceIte,reduceCtorEq,Nat.reduceSub,Nat.reduceAdd,Nat.reduceMul,Nat.reduceLT,Nat.reduceLeDiff,Nat.reduceEqDiff,Nat.reduceBEq,Int.reduceToNat,Int.reduceLT,Int.reduceLE,Int.reduceEq,Int.reduceNeg,Try.results43,gtp,Heap.lt gtp,dcA0])
    simp [*] <;> omega
def kd (x : Lk) : DV := .agg [.sc (.int .i64 x.f0), .sc (.int .i64 x.f1)]
def kv (x : Lk) : Value := .agg #[.int .i64 x.f0, .int .i64 x.f1]
theorem kd_eq (x : Lk) : kd x = .agg [.sc (.int .i64 x.f0), .sc (.int .i64 x.f1)] := rfl
theorem kval_kd (x : Lk) : kval (kd x) = some (kv x) := rfl
def mapI (l : List Lk) (els : List (List DV)) : Prop := (∀ el ∈ els, ∃ x ∈ l, ∃ v s, el = [kd x, v, s]) ∧ ∀ x ∈ l, ∃ v s, [kd x, v, s] ∈ els
def pcI (n : Int) (l : List Lk) (σ0 : Heap) (m : Nat) (ts : List DV) (σ : Heap) : Prop := ∃ i q els, m = l.length + 1 - i ∧ i ≤ l.length ∧ ckOk n (l.take i) ∧ mapI (l.take i) els ∧ σ.get q = some ⟨els, 88, none⟩ ∧ σ0.n < q ∧ σ.get σ0.n = some ⟨[[.sc (.int .i64 n)]], 3, true⟩ ∧ Ext [] σ0 σ ∧ TellsL ts (.any :: .any :: .any :: .any :: .any :: .fn (.func 43) [] [.ptr σ0.n 0 0 1] :: .mp q :: .any :: .any :: .any :: .any :: .any :: .any :: .any :: .any :: .any :: .any :: .any :: .any :: .any :: .any :: .any :: .any :: .any :: .any :: .imm (l.map eK) :: .sc (.int .i64 l.length) :: .sc (.int .i64 i) :: .any :: .any :: .any :: .any :: .any :: .any :: .any :: .any :: .any :: .any :: .any :: .any :: .any :: .any :: .any :: .any :: .any :: .any :: .any :: .any :: .any :: .any :: .any :: .any :: .any :: .any :: .any :: .any :: .any :: .any :: .any :: .any :: .any :: .any :: .any :: .any :: .any :: .any :: .any :: .any :: .any :: .any :: .any :: .any :: .any :: .any :: .any :: .any :: .any :: .any :: .any :: [])
theorem pcheck_ok (σ : Heap) (n : Int) (l : List Lk) (hw : ∀ x ∈ l, wK x) : ACalls Try.prog 29 [.sc (.int .i64 n), .imm (l.map eK)] σ (fun x σ' => x = .sc (.int .i64 (chk n l)) ∧ Ext [] σ σ') := by
  have dcml : (l.map eK).length = l.length := by simp
  refine ACalls.code hT Try.func29 rfl ?_
  simp only [Try.ntmps29, List.length_cons, List.length_nil, Nat.reduceSub, Nat.reduceAdd, List.replicate, List.cons_append, List.nil_append]
  by_cases h1 : n < 1
  · have dc1 : decide (n < 1) = true := by simpa using h1
    repeat (first | (with_reducible refine AW.seq ?_) | (with_reducible refine AW.block ?_) | (with_reducible refine AW.skip ?_) | (with_reducible refine AW.ret ?_) | (with_reducible refine AW.exit ?_) | (with_reducible refine AW.reg hT ?_) | ((with_reducible refine AW.cond_true ?_ ?_); · rfl) | ((with_reducible refine AW.cond_false ?_ ?_); · rfl) | simp (maxSteps := 3000000) (maxDischargeDepth := 12) only [push_cast,appendX,reduceIte,reduceCtorEq,Nat.reduceSub,Nat.reduceAdd,Nat.reduceMul,Nat.reduceLT,Nat.reduceLeDiff,Nat.reduceEqDiff,Nat.reduceBEq,Int.reduceToNat,Int.reduceLT,Int.reduceLE,Int.reduceEq,Int.reduceNeg,Try.results29,dcml,dc1])
    refine ⟨by simp [chk, h1], by repeat (first | exact Ext.refl _ _ | assumption | refine Ext.push ?_ _ | ((refine Ext.set ?_ ?_ _); rotate_left; · (simp (maxSteps := 3000000) (maxDischargeDepth := 12) only [push_cast, appendX, Nat.reduceAdd, Nat.reduceEqDiff, Nat.reduceLT, Nat.reduceLeDiff, reduceIte, reduceCtorEq, dcml, dc1])) | ((refine Ext.then1 (by assumption) ?_ ?_); rotate_left; · (intro p hp _; first | assumption | exact List.mem_cons_of_mem _ hp | (cases hp; done) | (simp at hp; subst hp; simp))))⟩
  have dc1 : decide (n < 1) = false := by simpa using h1
  by_cases h2 : 16 < n
  · have dc2 : decide (16 < n) = true := by simpa using h2
    repeat (first | (with_reducible refine AW.seq ?_) | (with_reducible refine AW.block ?_) | (with_reducible refine AW.skip ?_) | (with_reducible refine AW.ret ?_) | (with_reducible refine AW.exit ?_) | (with_reducible refine AW.reg hT ?_) | ((with_reducible refine AW.cond_true ?_ ?_); · rfl) | ((with_reducible refine AW.cond_false ?_ ?_); · rfl) | simp (maxSteps := 3000000) (maxDischargeDepth := 12) only [push_cast,appendX,reduceIte,reduceCtorEq,Nat.reduceSub,Nat.reduceAdd,Nat.reduceMul,Nat.reduceLT,Nat.reduceLeDiff,Nat.reduceEqDiff,Nat.reduceBEq,Int.reduceToNat,Int.reduceLT,Int.reduceLE,Int.reduceEq,Int.reduceNeg,Try.results29,dcml,dc1,dc2])
    refine ⟨by simp [chk, h2], by repeat (first | exact Ext.refl _ _ | assumption | refine Ext.push ?_ _ | ((refine Ext.set ?_ ?_ _); rotate_left; · (simp (maxSteps := 3000000) (maxDischargeDepth := 12) only [push_cast, appendX, Nat.reduceAdd, Nat.reduceEqDiff, Nat.reduceLT, Nat.reduceLeDiff, reduceIte, reduceCtorEq, dcml, dc1, dc2])) | ((refine Ext.then1 (by assumption) ?_ ?_); rotate_left; · (intro p hp _; first | assumption | exact List.mem_cons_of_mem _ hp | (cases hp; done) | (simp at hp; subst hp; simp))))⟩
  have dc2 : decide (16 < n) = false := by simpa using h2
  by_cases h3 : 64 < (l.length : Int)
  · have dc3 : decide (64 < (l.length : Int)) = true := by simpa using h3
    repeat (first | (with_reducible refine AW.seq ?_) | (with_reducible refine AW.block ?_) | (with_reducible refine AW.skip ?_) | (with_reducible refine AW.ret ?_) | (with_reducible refine AW.exit ?_) | (with_reducible refine AW.reg hT ?_) | ((with_reducible refine AW.cond_true ?_ ?_); · rfl) | ((with_reducible refine AW.cond_false ?_ ?_); · rfl) | simp (maxSteps := 3000000) (maxDischargeDepth := 12) only [push_cast,appendX,reduceIte,reduceCtorEq,Nat.reduceSub,Nat.reduceAdd,Nat.reduceMul,Nat.reduceLT,Nat.reduceLeDiff,Nat.reduceEqDiff,Nat.reduceBEq,Int.reduceToNat,Int.reduceLT,Int.reduceLE,Int.reduceEq,Int.reduceNeg,Try.results29,dcml,dc1,dc2,dc3])
    have h3' : 64 < l.length := by omega
    refine ⟨by simp [chk, h1, h2, h3'], by repeat (first | exact Ext.refl _ _ | assumption | refine Ext.push ?_ _ | ((refine Ext.set ?_ ?_ _); rotate_left; · (simp (maxSteps := 3000000) (maxDischargeDepth := 12) only [push_cast, appendX, Nat.reduceAdd, Nat.reduceEqDiff, Nat.reduceLT, Nat.reduceLeDiff, reduceIte, reduceCtorEq, dcml, dc1, dc2, dc3])) | ((refine Ext.then1 (by assumption) ?_ ?_); rotate_left; · (intro p hp _; first | assumption | exact List.mem_cons_of_mem _ hp | (cases hp; done) | (simp at hp; subst hp; simp))))⟩
  have dc3 : decide (64 < (l.length : Int)) = false := by simpa using h3
  have h3' : ¬ 64 < l.length := by omega
  repeat (first | (with_reducible refine AW.seq ?_) | (with_reducible refine AW.block ?_) | (with_reducible refine AW.skip ?_) | (with_reducible refine AW.ret ?_) | (with_reducible refine AW.exit ?_) | (with_reducible refine AW.reg hT ?_) | ((with_reducible refine AW.cond_true ?_ ?_); · rfl) | ((with_reducible refine AW.cond_false ?_ ?_); · rfl) | simp (maxSteps := 3000000) (maxDischargeDepth := 12) only [push_cast,appendX,reduceIte,reduceCtorEq,Nat.reduceSub,Nat.reduceAdd,Nat.reduceMul,Nat.reduceLT,Nat.reduceLeDiff,Nat.reduceEqDiff,Nat.reduceBEq,Int.reduceToNat,Int.reduceLT,Int.reduceLE,Int.reduceEq,Int.reduceNeg,Try.results29,dcml,dc1,dc2,dc3])
  refine AOpsL.rule hT rfl (AOp.makeMap hT rfl rfl (by decide) ?_)
  repeat (first | (with_reducible refine AW.seq ?_) | (with_reducible refine AW.block ?_) | (with_reducible refine AW.skip ?_) | (with_reducible refine AW.ret ?_) | (with_reducible refine AW.exit ?_) | (with_reducible refine AW.reg hT ?_) | ((with_reducible refine AW.cond_true ?_ ?_); · rfl) | ((with_reducible refine AW.cond_false ?_ ?_); · rfl) | simp (maxSteps := 3000000) (maxDischargeDepth := 12) only [push_cast,appendX,reduceIte,reduceCtorEq,Nat.reduceSub,Nat.reduceAdd,Nat.reduceMul,Nat.reduceLT,Nat.reduceLeDiff,Nat.reduceEqDiff,Nat.reduceBEq,Int.reduceToNat,Int.reduceLT,Int.reduceLE,Int.reduceEq,Int.reduceNeg,Try.results29,dcml,dc1,dc2,dc3])
  refine AW.loop (pcI n l σ) (m := l.length + 1) ⟨0, σ.n + 1, [], by simp, by simp, ⟨by simp, by simp⟩, ⟨by simp, by simp⟩, by simp (maxSteps := 3000000) (maxDischargeDepth := 12) only [push_cast, appendX, Nat.reduceAdd, Nat.reduceEqDiff, Nat.reduceLT, Nat.reduceLeDiff, reduceIte, reduceCtorEq, dcml, dc1, dc2, dc3], by omega, by simp (maxSteps := 3000000) (maxDischargeDepth := 12) only [push_cast, appendX, Nat.reduceAdd, Nat.reduceEqDiff, Nat.reduceLT, Nat.reduceLeDiff, reduceIte, reduceCtorEq, dcml, dc1, dc2, dc3], by repeat (first | exact Ext.refl _ _ | assumption | refine Ext.push ?_ _ | ((refine Ext.set ?_ ?_ _); rotate_left; · (simp (maxSteps := 3000000) (maxDischargeDepth := 12) only [push_cast, appendX, Nat.reduceAdd, Nat.reduceEqDiff, Nat.reduceLT, Nat.reduceLeDiff, reduceIte, reduceCtorEq, dcml, dc1, dc2, dc3])) | ((refine Ext.then1 (by assumption) ?_ ?_); rotate_left; · (intro p hp _; first | assumption | exact List.mem_cons_of_mem _ hp | (cases hp; done) | (simp at hp; subst hp; simp)))), by (simp only [push_cast, TellsL, tells_any, tells_refl])⟩ ?_
  rintro m ts σ3 ⟨i, q, els, rfl, hil, hck, hmp, gtq, hq, gtn, xt3, hts⟩
  refine AW.told hts ?_
  clear hts
  by_cases hi : i < l.length
  · have dci : decide ((i : Int) < (l.length : Int)) = true := by simp; omega
    have dci2 : ((i : Int) < (l.length : Int)) = True := by simp; omega
    have dci0 : ((0 : Int) ≤ (i : Int)) = True := by simp
    obtain ⟨x, hx⟩ : ∃ x, x = l[i] := ⟨_, rfl⟩
    have dcel : (l.map eK)[i]? = some (eK x) := by rw [List.getElem?_map, List.getElem?_eq_getElem hi, hx]; rfl
    rw [eK_eq] at dcel
    have dcw : IntKind.i64.wrap ((i : Int) + 1) = (i : Int) + 1 := wrap_i64 (by omega) (by omega)
    have hxw : wK x := hw x (by rw [hx]; exact List.getElem_mem _)
    obtain ⟨l0, hl0⟩ := ends_key x.f0 x.f1 hxw.1 hxw.2.1
    have hct := ckOk_take n l i hi
    rw [← hx] at hct
    have hbad : ¬ (lkOk n x ∧ ∀ y ∈ l.take i, ¬ sameEnds y x) → chk n l = 2 := fun h => by
      have : ¬ ckOk n l := fun hc => h (hct.1 (ckOk_of n l (i + 1) hc)).2
      simp [chk, h1, h2, h3', this]
    repeat (first | (with_reducible refine AW.seq ?_) | (with_reducible refine AW.block ?_) | (with_reducible refine AW.skip ?_) | (with_reducible refine AW.ret ?_) | (with_reducible refine AW.exit ?_) | (with_reducible refine AW.reg hT ?_) | ((with_reducible refine AW.cond_true ?_ ?_); · rfl) | ((with_reducible refine AW.cond_false ?_ ?_); · rfl) | simp (maxSteps := 3000000) (maxDischargeDepth := 12) only [push_cast,appendX,reduceIte,reduceCtorEq,Nat.reduceSub,Nat.reduceAdd,Nat.reduceMul,Nat.reduceLT,Nat.reduceLeDiff,Nat.reduceEqDiff,Nat.reduceBEq,Int.reduceToNat,Int.reduceLT,Int.reduceLE,Int.reduceEq,Int.reduceNeg,Try.results29,dcml,dc1,dc2,dc3,gtq,Heap.lt gtq,gtn,Heap.lt gtn,xt3.2,xt3.ltT,xt3.leT,dci,dci2,dci0,dcel,dcw])
    by_cases hsm : ∃ y ∈ l.take i, sameEnds y x
    · obtain ⟨y, hy, hye⟩ := hsm
      obtain ⟨v, s0, hmem⟩ := hmp.2 y hy
      obtain ⟨j, hj⟩ := List.mem_iff_getElem?.1 hmem
      refine AOpsL.rule hT rfl (AOp.lookup_hit (v0 := kv x) hT rfl rfl (by decide) ends_keyed rfl rfl (by simp (maxSteps := 3000000) (maxDischargeDepth := 12) only [push_cast, appendX, Nat.reduceAdd, Nat.reduceEqDiff, Nat.reduceLT, Nat.reduceLeDiff, reduceIte, reduceCtorEq, dcml, dc1, dc2, dc3, gtq, Heap.lt gtq, gtn, Heap.lt gtn, xt3.2, xt3.ltT, xt3.leT, dci, dci2, dci0, dcel, dcw]) rfl hl0 hj (by rw [kval_kd]; simp [kv, hye.1, hye.2]) ?_)
      repeat (first | (with_reducible refine AW.seq ?_) | (with_reducible refine AW.block ?_) | (with_reducible refine AW.skip ?_) | (with_reducible refine AW.ret ?_) | (with_reducible refine AW.exit ?_) | (with_reducible refine AW.reg hT ?_) | ((with_reducible refine AW.cond_true ?_ ?_); · rfl) | ((with_reducible refine AW.cond_false ?_ ?_); · rfl) | simp (maxSteps := 3000000) (maxDischargeDepth := 12) only [push_cast,appendX,reduceIte,reduceCtorEq,Nat.reduceSub,Nat.reduceAdd,Nat.reduceMul,Nat.reduceLT,Nat.reduceLeDiff,Nat.reduceEqDiff,Nat.reduceBEq,Int.reduceToNat,Int.reduceLT,Int.reduceLE,Int.reduceEq,Int.reduceNeg,Try.results29,dcml,dc1,dc2,dc3,gtq,Heap.lt gtq,gtn,Heap.lt gtn,xt3.2,xt3.ltT,xt3.leT,dci,dci2,dci0,dcel,dcw])
      refine ⟨by rw [hbad]; rintro ⟨_, h⟩; exact h y hy hye, by repeat (first | exact Ext.refl _ _ | assumption | refine Ext.push ?_ _ | ((refine Ext.set ?_ ?_ _); rotate_left; · (simp (maxSteps := 3000000) (maxDischargeDepth := 12) only [push_cast, appendX, Nat.reduceAdd, Nat.reduceEqDiff, Nat.reduceLT, Nat.reduceLeDiff, reduceIte, reduceCtorEq, dcml, dc1, dc2, dc3, gtq, Heap.lt gtq, gtn, Heap.lt gtn, xt3.2, xt3.ltT, xt3.leT, dci, dci2, dci0, dcel, dcw])) | ((refine Ext.then1 (by assumption) ?_ ?_); rotate_left; · (intro p hp _; first | assumption | exact List.mem_cons_of_mem _ hp | (cases hp; done) | (simp at hp; subst hp; simp))))⟩
    · have hnew : ∀ y ∈ l.take i, ¬ sameEnds y x := fun y hy h => hsm ⟨y, hy, h⟩
      have hne : ∀ el ∈ els, ∃ k' v' r, el = k' :: r ∧ kval k' = some v' ∧ v' ≠ kv x := fun el hel => by
        obtain ⟨y, hy, v, s0, rfl⟩ := hmp.1 el hel
        refine ⟨kd y, kv y, _, rfl, kval_kd y, fun h => hnew y hy ?_⟩
        simp [kv] at h
        exact h
      refine AOpsL.rule hT rfl (AOp.lookup_miss (v0 := kv x) (zd := .sc (.int .i64 0)) hT rfl rfl (by decide) ends_keyed (z := .int .i64 0) zero_int rfl rfl rfl (by simp (maxSteps := 3000000) (maxDischargeDepth := 12) only [push_cast, appendX, Nat.reduceAdd, Nat.reduceEqDiff, Nat.reduceLT, Nat.reduceLeDiff, reduceIte, reduceCtorEq, dcml, dc1, dc2, dc3, gtq, Heap.lt gtq, gtn, Heap.lt gtn, xt3.2, xt3.ltT, xt3.leT, dci, dci2, dci0, dcel, dcw]) rfl hl0 hne ?_)
      repeat (first | (with_reducible refine AW.seq ?_) | (with_reducible refine AW.block ?_) | (with_reducible refine AW.skip ?_) | (with_reducible refine AW.ret ?_) | (with_reducible refine AW.exit ?_) | (with_reducible refine AW.reg hT ?_) | ((with_reducible refine AW.cond_true ?_ ?_); · rfl) | ((with_reducible refine AW.cond_false ?_ ?_); · rfl) | simp (maxSteps := 3000000) (maxDischargeDepth := 12) only [push_cast,appendX,reduceIte,reduceCtorEq,Nat.reduceSub,Nat.reduceAdd,Nat.reduceMul,Nat.reduceLT,Nat.reduceLeDiff,Nat.reduceEqDiff,Nat.reduceBEq,Int.reduceToNat,Int.reduceLT,Int.reduceLE,Int.reduceEq,Int.reduceNeg,Try.results29,dcml,dc1,dc2,dc3,gtq,Heap.lt gtq,gtn,Heap.lt gtn,xt3.2,xt3.ltT,xt3.leT,dci,dci2,dci0,dcel,dcw])
      refine AOpsL.call (first := []) (cap := [.ptr σ.n 0 0 1]) hT rfl rfl rfl fn43 rfl ((node_ok _ n x.f0 (by simp (maxSteps := 3000000) (maxDischargeDepth := 12) only [push_cast, appendX, Nat.reduceAdd, Nat.reduceEqDiff, Nat.reduceLT, Nat.reduceLeDiff, reduceIte, reduceCtorEq, dcml, dc1, dc2, dc3, gtq, Heap.lt gtq, gtn, Heap.lt gtn, xt3.2, xt3.ltT, xt3.leT, dci, dci2, dci0, dcel, dcw])).mono ?_)
      rintro y s' ⟨rfl, rfl⟩
      by_cases ha : 0 ≤ x.f0 ∧ x.f0 < n
      · have dca : decide (0 ≤ x.f0 ∧ x.f0 < n) = true := by simpa using ha
        rw [dca]
        repeat (first | (with_reducible refine AW.seq ?_) | (with_reducible refine AW.block ?_) | (with_reducible refine AW.skip ?_) | (with_reducible refine AW.ret ?_) | (with_reducible refine AW.exit ?_) | (with_reducible refine AW.reg hT ?_) | ((with_reducible refine AW.cond_true ?_ ?_); · rfl) | ((with_reducible refine AW.cond_false ?_ ?_); · rfl) | simp (maxSteps := 3000000) (maxDischargeDepth := 12) only [push_cast,appendX,reduceIte,reduceCtorEq,Nat.reduceSub,Nat.reduceAdd,Nat.reduceMul,Nat.reduceLT,Nat.reduceLeDiff,Nat.reduceEqDiff,Nat.reduceBEq,Int.reduceToNat,Int.reduceLT,Int.reduceLE,Int.reduceEq,Int.reduceNeg,Try.results29,dcml,dc1,dc2,dc3,gtq,Heap.lt gtq,gtn,Heap.lt gtn,xt3.2,xt3.ltT,xt3.leT,dci,dci2,dci0,dcel,dcw,dca])
        refine AOpsL.call (first := []) (cap := [.ptr σ.n 0 0 1]) hT rfl rfl rfl fn43 rfl ((node_ok _ n x.f1 (by simp (maxSteps := 3000000) (maxDischargeDepth := 12) only [push_cast, appendX, Nat.reduceAdd, Nat.reduceEqDiff, Nat.reduceLT, Nat.reduceLeDiff, reduceIte, reduceCtorEq, dcml, dc1, dc2, dc3, gtq, Heap.lt gtq, gtn, Heap.lt gtn, xt3.2, xt3.ltT, xt3.leT, dci, dci2, dci0, dcel, dcw, dca])).mono ?_)
        rintro y s' ⟨rfl, rfl⟩
        by_cases hb : 0 ≤ x.f1 ∧ x.f1 < n
        · have dcb : decide (0 ≤ x.f1 ∧ x.f1 < n) = true := by simpa using hb
          rw [dcb]
          by_cases hc : x.f0 = x.f1
          · have dcc : (x.f0 == x.f1) = true := by simpa using hc
            repeat (first | (with_reducible refine AW.seq ?_) | (with_reducible refine AW.block ?_) | (with_reducible refine AW.skip ?_) | (with_reducible refine AW.ret ?_) | (with_reducible refine AW.exit ?_) | (with_reducible refine AW.reg hT ?_) | ((with_reducible refine AW.cond_true ?_ ?_); · rfl) | ((with_reducible refine AW.cond_false ?_ ?_); · rfl) | simp (maxSteps := 3000000) (maxDischargeDepth := 12) only [push_cast,appendX,reduceIte,reduceCtorEq,Nat.reduceSub,Nat.reduceAdd,Nat.reduceMul,Nat.reduceLT,Nat.reduceLeDiff,Nat.reduceEqDiff,Nat.reduceBEq,Int.reduceToNat,Int.reduceLT,Int.reduceLE,Int.reduceEq,Int.reduceNeg,Try.results29,dcml,dc1,dc2,dc3,gtq,Heap.lt gtq,gtn,Heap.lt gtn,xt3.2,xt3.ltT,xt3.leT,dci,dci2,dci0,dcel,dcw,dca,dcb,dcc])
            refine ⟨by rw [hbad]; rintro ⟨h, _⟩; unfold lkOk at h; omega, by repeat (first | exact Ext.refl _ _ | assumption | refine Ext.push ?_ _ | ((refine Ext.set ?_ ?_ _); rotate_left; · (simp (maxSteps := 3000000) (maxDischargeDepth := 12) only [push_cast, appendX, Nat.reduceAdd, Nat.reduceEqDiff, Nat.reduceLT, Nat.reduceLeDiff, reduceIte, reduceCtorEq, dcml, dc1, dc2, dc3, gtq, Heap.lt gtq, gtn, Heap.lt gtn, xt3.2, xt3.ltT, xt3.leT, dci, dci2, dci0, dcel, dcw, dca, dcb, dcc])) | ((refine Ext.then1 (by assumption) ?_ ?_); rotate_left; · (intro p hp _; first | assumption | exact List.mem_cons_of_mem _ hp | (cases hp; done) | (simp at hp; subst hp; simp))))⟩
          have dcc : (x.f0 == x.f1) = false := by simpa using hc
          by_cases hd : x.f3 < 1
          · have dcd : decide (x.f3 < 1) = true := by simpa using hd
            repeat (first | (with_reducible refine AW.seq ?_) | (with_reducible refine AW.block ?_) | (with_reducible refine AW.skip ?_) | (with_reducible refine AW.ret ?_) | (with_reducible refine AW.exit ?_) | (with_reducible refine AW.reg hT ?_) | ((with_reducible refine AW.cond_true ?_ ?_); · rfl) | ((with_reducible refine AW.cond_false ?_ ?_); · rfl) | simp (maxSteps := 3000000) (maxDischargeDepth := 12) only [push_cast,appendX,reduceIte,reduceCtorEq,Nat.reduceSub,Nat.reduceAdd,Nat.reduceMul,Nat.reduceLT,Nat.reduceLeDiff,Nat.reduceEqDiff,Nat.reduceBEq,Int.reduceToNat,Int.reduceLT,Int.reduceLE,Int.reduceEq,Int.reduceNeg,Try.results29,dcml,dc1,dc2,dc3,gtq,Heap.lt gtq,gtn,Heap.lt gtn,xt3.2,xt3.ltT,xt3.leT,dci,dci2,dci0,dcel,dcw,dca,dcb,dcc,dcd])
            refine ⟨by rw [hbad]; rintro ⟨h, _⟩; unfold lkOk at h; omega, by repeat (first | exact Ext.refl _ _ | assumption | refine Ext.push ?_ _ | ((refine Ext.set ?_ ?_ _); rotate_left; · (simp (maxSteps := 3000000) (maxDischargeDepth := 12) only [push_cast, appendX, Nat.reduceAdd, Nat.reduceEqDiff, Nat.reduceLT, Nat.reduceLeDiff, reduceIte, reduceCtorEq, dcml, dc1, dc2, dc3, gtq, Heap.lt gtq, gtn, Heap.lt gtn, xt3.2, xt3.ltT, xt3.leT, dci, dci2, dci0, dcel, dcw, dca, dcb, dcc, dcd])) | ((refine Ext.then1 (by assumption) ?_ ?_); rotate_left; · (intro p hp _; first | assumption | exact List.mem_cons_of_mem _ hp | (cases hp; done) | (simp at hp; subst hp; simp))))⟩
          have dcd : decide (x.f3 < 1) = false := by simpa using hd
          by_cases he : 65535 < x.f3
          · have dce : decide (65535 < x.f3) = true := by simpa using he
            repeat (first | (with_reducible refine AW.seq ?_) | (with_reducible refine AW.block ?_) | (with_reducible refine AW.skip ?_) | (with_reducible refine AW.ret ?_) | (with_reducible refine AW.exit ?_) | (with_reducible refine AW.reg hT ?_) | ((with_reducible refine AW.cond_true ?_ ?_); · rfl) | ((with_reducible refine AW.cond_false ?_ ?_); · rfl) | simp (maxSteps := 3000000) (maxDischargeDepth := 12) only [push_cast,appendX,reduceIte,reduceCtorEq,Nat.reduceSub,Nat.reduceAdd,Nat.reduceMul,Nat.reduceLT,Nat.reduceLeDiff,Nat.reduceEqDiff,Nat.reduceBEq,Int.reduceToNat,Int.reduceLT,Int.reduceLE,Int.reduceEq,Int.reduceNeg,Try.results29,dcml,dc1,dc2,dc3,gtq,Heap.lt gtq,gtn,Heap.lt gtn,xt3.2,xt3.ltT,xt3.leT,dci,dci2,dci0,dcel,dcw,dca,dcb,dcc,dcd,dce])
            refine ⟨by rw [hbad]; rintro ⟨h, _⟩; unfold lkOk at h; omega, by repeat (first | exact Ext.refl _ _ | assumption | refine Ext.push ?_ _ | ((refine Ext.set ?_ ?_ _); rotate_left; · (simp (maxSteps := 3000000) (maxDischargeDepth := 12) only [push_cast, appendX, Nat.reduceAdd, Nat.reduceEqDiff, Nat.reduceLT, Nat.reduceLeDiff, reduceIte, reduceCtorEq, dcml, dc1, dc2, dc3, gtq, Heap.lt gtq, gtn, Heap.lt gtn, xt3.2, xt3.ltT, xt3.leT, dci, dci2, dci0, dcel, dcw, dca, dcb, dcc, dcd, dce])) | ((refine Ext.then1 (by assumption) ?_ ?_); rotate_left; · (intro p hp _; first | assumption | exact List.mem_cons_of_mem _ hp | (cases hp; done) | (simp at hp; subst hp; simp))))⟩
          have dce : decide (65535 < x.f3) = false := by simpa using he
          have dcq : (σ.n = q) = False := by simp; omega
          have dcq2 : (σ.n ≤ q) = True := by simp; omega
          repeat (first | (with_reducible refine AW.seq ?_) | (with_reducible refine AW.block ?_) | (with_reducible refine AW.skip ?_) | (with_reducible refine AW.ret ?_) | (with_reducible refine AW.exit ?_) | (with_reducible refine AW.reg hT ?_) | ((with_reducible refine AW.cond_true ?_ ?_); · rfl) | ((with_reducible refine AW.cond_false ?_ ?_); · rfl) | simp (maxSteps := 3000000) (maxDischargeDepth := 12) only [push_cast,appendX,reduceIte,reduceCtorEq,Nat.reduceSub,Nat.reduceAdd,Nat.reduceMul,Nat.reduceLT,Nat.reduceLeDiff,Nat.reduceEqDiff,Nat.reduceBEq,Int.reduceToNat,Int.reduceLT,Int.reduceLE,Int.reduceEq,Int.reduceNeg,Try.results29,dcml,dc1,dc2,dc3,gtq,Heap.lt gtq,gtn,Heap.lt gtn,xt3.2,xt3.ltT,xt3.leT,dci,dci2,dci0,dcel,dcw,dca,dcb,dcc,dcd,dce,dcq,dcq2])
          refine AOpsL.rule hT rfl (AOp.mapUpdate_miss (v0 := kv x) (kd := kd x) (vd := .sc (.int .i64 i)) hT rfl rfl (by decide) ends_keyed rfl rfl rfl (by simp (maxSteps := 3000000) (maxDischargeDepth := 12) only [push_cast, appendX, Nat.reduceAdd, Nat.reduceEqDiff, Nat.reduceLT, Nat.reduceLeDiff, reduceIte, reduceCtorEq, dcml, dc1, dc2, dc3, gtq, Heap.lt gtq, gtn, Heap.lt gtn, xt3.2, xt3.ltT, xt3.leT, dci, dci2, dci0, dcel, dcw, dca, dcb, dcc, dcd, dce, dcq, dcq2]) rfl hl0 hne (fun s1 => ?_))
          repeat (first | (with_reducible refine AW.seq ?_) | (with_reducible refine AW.block ?_) | (with_reducible refine AW.skip ?_) | (with_reducible refine AW.ret ?_) | (with_reducible refine AW.exit ?_) | (with_reducible refine AW.reg hT ?_) | ((with_reducible refine AW.cond_true ?_ ?_); · rfl) | ((with_reducible refine AW.cond_false ?_ ?_); · rfl) | simp (maxSteps := 3000000) (maxDischargeDepth := 12) only [push_cast,appendX,reduceIte,reduceCtorEq,Nat.reduceSub,Nat.reduceAdd,Nat.reduceMul,Nat.reduceLT,Nat.reduceLeDiff,Nat.reduceEqDiff,Nat.reduceBEq,Int.reduceToNat,Int.reduceLT,Int.reduceLE,Int.reduceEq,Int.reduceNeg,Try.results29,dcml,dc1,dc2,dc3,gtq,Heap.lt gtq,gtn,Heap.lt gtn,xt3.2,xt3.ltT,xt3.leT,dci,dci2,dci0,dcel,dcw,dca,dcb,dcc,dcd,dce,dcq,dcq2])
          refine ⟨l.length + 1 - (i + 1), by omega, i + 1, q, els ++ [[kd x, .sc (.int .i64 i), .sc (.int .i64 s1)]], rfl, hi, hct.2 ⟨hck, ?_, hnew⟩, ?_, by simp (maxSteps := 3000000) (maxDischargeDepth := 12) only [push_cast, appendX, Nat.reduceAdd, Nat.reduceEqDiff, Nat.reduceLT, Nat.reduceLeDiff, reduceIte, reduceCtorEq, dcml, dc1, dc2, dc3, gtq, Heap.lt gtq, gtn, Heap.lt gtn, xt3.2, xt3.ltT, xt3.leT, dci, dci2, dci0, dcel, dcw, dca, dcb, dcc, dcd, dce, dcq, dcq2], hq, by simp (maxSteps := 3000000) (maxDischargeDepth := 12) only [push_cast, appendX, Nat.reduceAdd, Nat.reduceEqDiff, Nat.reduceLT, Nat.reduceLeDiff, reduceIte, reduceCtorEq, dcml, dc1, dc2, dc3, gtq, Heap.lt gtq, gtn, Heap.lt gtn, xt3.2, xt3.ltT, xt3.leT, dci, dci2, dci0, dcel, dcw, dca, dcb, dcc, dcd, dce, dcq, dcq2], by repeat (first | exact Ext.refl _ _ | assumption | refine Ext.push ?_ _ | ((refine Ext.set ?_ ?_ _); rotate_left; · (simp (maxSteps := 3000000) (maxDischargeDepth := 12) only [push_cast, appendX, Nat.reduceAdd, Nat.reduceEqDiff, Nat.reduceLT, Nat.reduceLeDiff, reduceIte, reduceCtorEq, dcml, dc1, dc2, dc3, gtq, Heap.lt gtq, gtn, Heap.lt gtn, xt3.2, xt3.ltT, xt3.leT, dci, dci2, dci0, dcel, dcw, dca, dcb, dcc, dcd, dce, dcq, dcq2])) | ((refine Ext.then1 (by assumption) ?_ ?_); rotate_left; · (intro p hp _; first | assumption | exact List.mem_cons_of_mem _ hp | (cases hp; done) | (simp at hp; subst hp; simp)))), by (simp only [push_cast, TellsL, tells_any, tells_refl])⟩
          · unfold lkOk; omega
          · rw [List.take_add_one, List.getElem?_eq_getElem hi, Option.toList_some, ← hx]
            refine ⟨fun el hel => ?_, fun y hy => ?_⟩
            · rcases List.mem_append.1 hel with hel | hel
              · obtain ⟨y, hy, r⟩ := hmp.1 el hel
                exact ⟨y, List.mem_append_left _ hy, r⟩
              · rw [List.mem_singleton.1 hel]; exact ⟨x, by simp, _, _, rfl⟩
            · rcases List.mem_append.1 hy with hy | hy
              · obtain ⟨v, s0, h⟩ := hmp.2 y hy
                exact ⟨v, s0, List.mem_append_left _ h⟩
              · rw [List.mem_singleton.1 hy]; exact ⟨_, _, List.mem_append_right _ (List.mem_singleton.2 rfl)⟩
        · have dcb : decide (0 ≤ x.f1 ∧ x.f1 < n) = false := by simpa using hb
          rw [dcb]
          repeat (first | (with_reducible refine AW.seq ?_) | (with_reducible refine AW.block ?_) | (with_reducible refine AW.skip ?_) | (with_reducible refine AW.ret ?_) | (with_reducible refine AW.exit ?_) | (with_reducible refine AW.reg hT ?_) | ((with_reducible refine AW.cond_true ?_ ?_); · rfl) | ((with_reducible refine AW.cond_false ?_ ?_); · rfl) | simp (maxSteps := 3000000) (maxDischargeDepth := 12) only [push_cast,appendX,reduceIte,reduceCtorEq,Nat.reduceSub,Nat.reduceAdd,Nat.reduceMul,Nat.reduceLT,Nat.reduceLeDiff,Nat.reduceEqDiff,Nat.reduceBEq,Int.reduceToNat,Int.reduceLT,Int.reduceLE,Int.reduceEq,Int.reduceNeg,Try.results29,dcml,dc1,dc2,dc3,gtq,Heap.lt gtq,gtn,Heap.lt gtn,xt3.2,xt3.ltT,xt3.leT,dci,dci2,dci0,dcel,dcw,dca,dcb])
          refine ⟨by rw [hbad]; rintro ⟨h, _⟩; unfold lkOk at h; omega, by repeat (first | exact Ext.refl _ _ | assumption | refine Ext.push ?_ _ | ((refine Ext.set ?_ ?_ _); rotate_left; · (simp (maxSteps := 3000000) (maxDischargeDepth := 12) only [push_cast, appendX, Nat.reduceAdd, Nat.reduceEqDiff, Nat.reduceLT, Nat.reduceLeDiff, reduceIte, reduceCtorEq, dcml, dc1, dc2, dc3, gtq, Heap.lt gtq, gtn, Heap.lt gtn, xt3.2, xt3.ltT, xt3.leT, dci, dci2, dci0, dcel, dcw, dca, dcb])) | ((refine Ext.then1 (by assumption) ?_ ?_); rotate_left; · (intro p hp _; first | assumption | exact List.mem_cons_of_mem _ hp | (cases hp; done) | (simp at hp; subst hp; simp))))⟩
      · have dca : decide (0 ≤ x.f0 ∧ x.f0 < n) = false := by simpa using ha
        rw [dca]
        repeat (first | (with_reducible refine AW.seq ?_) | (with_reducible refine AW.block ?_) | (with_reducible refine AW.skip ?_) | (with_reducible refine AW.ret ?_) | (with_reducible refine AW.exit ?_) | (with_reducible refine AW.reg hT ?_) | ((with_reducible refine AW.cond_true ?_ ?_); · rfl) | ((with_reducible refine AW.cond_false ?_ ?_); · rfl) | simp (maxSteps := 3000000) (maxDischargeDepth := 12) only [push_cast,appendX,reduceIte,reduceCtorEq,Nat.reduceSub,Nat.reduceAdd,Nat.reduceMul,Nat.reduceLT,Nat.reduceLeDiff,Nat.reduceEqDiff,Nat.reduceBEq,Int.reduceToNat,Int.reduceLT,Int.reduceLE,Int.reduceEq,Int.reduceNeg,Try.results29,dcml,dc1,dc2,dc3,gtq,Heap.lt gtq,gtn,Heap.lt gtn,xt3.2,xt3.ltT,xt3.leT,dci,dci2,dci0,dcel,dcw,dca])
        refine ⟨by rw [hbad]; rintro ⟨h, _⟩; unfold lkOk at h; omega, by repeat (first | exact Ext.refl _ _ | assumption | refine Ext.push ?_ _ | ((refine Ext.set ?_ ?_ _); rotate_left; · (simp (maxSteps := 3000000) (maxDischargeDepth := 12) only [push_cast, appendX, Nat.reduceAdd, Nat.reduceEqDiff, Nat.reduceLT, Nat.reduceLeDiff, reduceIte, reduceCtorEq, dcml, dc1, dc2, dc3, gtq, Heap.lt gtq, gtn, Heap.lt gtn, xt3.2, xt3.ltT, xt3.leT, dci, dci2, dci0, dcel, dcw, dca])) | ((refine Ext.then1 (by assumption) ?_ ?_); rotate_left; · (intro p hp _; first | assumption | exact List.mem_cons_of_mem _ hp | (cases hp; done) | (simp at hp; subst hp; simp))))⟩
  · have dci : decide ((i : Int) < (l.length : Int)) = false := by simp; omega
    have he : i = l.length := by omega
    subst he
    rw [List.take_length] at hck
    repeat (first | (with_reducible refine AW.seq ?_) | (with_reducible refine AW.block ?_) | (with_reducible refine AW.skip ?_) | (with_reducible refine AW.ret ?_) | (with_reducible refine AW.exit ?_) | (with_reducible refine AW.reg hT ?_) | ((with_reducible refine AW.cond_true ?_ ?_); · rfl) | ((with_reducible refine AW.cond_false ?_ ?_); · rfl) | simp (maxSteps := 3000000) (maxDischargeDepth := 12) only [push_cast,appendX,reduceIte,reduceCtorEq,Nat.reduceSub,Nat.reduceAdd,Nat.reduceMul,Nat.reduceLT,Nat.reduceLeDiff,Nat.reduceEqDiff,Nat.reduceBEq,Int.reduceToNat,Int.reduceLT,Int.reduceLE,Int.reduceEq,Int.reduceNeg,Try.results29,dcml,dc1,dc2,dc3,gtq,Heap.lt gtq,gtn,Heap.lt gtn,xt3.2,xt3.ltT,xt3.leT,dci])
    exact ⟨by simp [chk, h1, h2, h3', hck], xt3⟩
def fnd (l : List Lk) (a b : Int) : Int := match l.findIdx? (fun x => decide (x.f0 = a ∧ x.f1 = b)) with | some i => (i : Int) | none => -1
def fdI (l : List Lk) (a b : Int) (σ0 : Heap) (m : Nat) (ts : List DV) (σ : Heap) : Prop := ∃ i, m = l.length + 1 - i ∧ i ≤ l.length ∧ (∀ y ∈ l.take i, ¬ (y.f0 = a ∧ y.f1 = b)) ∧ σ = σ0 ∧ TellsL ts (.imm (l.map eK) :: .sc (.int .i64 a) :: .sc (.int .i64 b) :: .any :: .any :: .any :: .any :: .sc (.int .i64 i) :: .any :: .any :: .any :: .any :: .any :: .any :: .any :: .any :: .any :: .any :: .any :: .any :: .any :: .any :: .any :: .any :: .any :: .any :: .any :: .any :: .any :: .any :: .any :: [])
theorem fnd_at (l : List Lk) (a b : Int) (i : Nat) (hi : i < l.length) (h1 : ∀ y ∈ l.take i, ¬ (y.f0 = a ∧ y.f1 = b)) (h2 : l[i].f0 = a ∧ l[i].f1 = b) : fnd l a b = i := by
  have : l.findIdx? (fun x => decide (x.f0 = a ∧ x.f1 = b)) = some i := by
    rw [List.findIdx?_eq_some_iff_getElem]
    refine ⟨hi, by simpa using h2, fun j hj => ?_⟩
    have := h1 l[j] (List.mem_iff_getElem.2 ⟨j, by simp; omega, by simp⟩)
    simpa using this
  simp only [fnd, this]
theorem fnd_none (l : List Lk) (a b : Int) (h1 : ∀ y ∈ l, ¬ (y.f0 = a ∧ y.f1 = b)) : fnd l a b = -1 := by
  have : l.findIdx? (fun x => decide (x.f0 = a ∧ x.f1 = b)) = none := by
    rw [List.findIdx?_eq_none_iff]
    exact fun y hy => by simpa using h1 y hy
  simp only [fnd, this]
theorem rfind_ok (σ : Heap) (l : List Lk) (a b : Int) (hl : l.length ≤ 1000000) : ACalls Try.prog 30 [.imm (l.map eK), .sc (.int .i64 a), .sc (.int .i64 b)] σ (fun x σ' => x = .sc (.int .i64 (fnd l a b)) ∧ σ' = σ) := by
  have dcml : (l.map eK).length = l.length := by simp
  refine ACalls.code hT Try.func30 rfl ?_
  simp only [Try.ntmps30, List.length_cons, List.length_nil, Nat.reduceSub, Nat.reduceAdd, List.replicate, List.cons_append, List.nil_append]
  repeat (first | (with_reducible refine AW.seq ?_) | (with_reducible refine AW.block ?_) | (with_reducible refine AW.skip ?_) | (with_reducible refine AW.ret ?_) | (with_reducible refine AW.exit ?_) | (with_reducible refine AW.reg hT ?_) | ((with_reducible refine AW.cond_true ?_ ?_); · rfl) | ((with_reducible refine AW.cond_false ?_ ?_); · rfl) | simp (maxSteps := 3000000) (maxDischargeDepth := 12) only [push_cast,appendX,reduceIte,reduceCtorEq,Nat.reduceSub,Nat.reduceAdd,Nat.reduceMul,Nat.reduceLT,Nat.reduceLeDiff,Nat.reduceEqDiff,Nat.reduceBEq,Int.reduceToNat,Int.reduceLT,Int.reduceLE,Int.reduceEq,Int.reduceNeg,Try.results30,dcml])
  refine AW.loop (fdI l a b σ) (m := l.length + 1) ⟨0, rfl, Nat.zero_le _, by simp, rfl, by (simp only [push_cast, TellsL, tells_any, tells_refl])⟩ ?_
  rintro m ts σ3 ⟨i, rfl, hil, hno, rfl, hts⟩
  refine AW.told hts ?_
  clear hts
  by_cases hi : i < l.length
  · have dci : decide ((i : Int) < (l.length : Int)) = true := by simp; omega
    have dci2 : ((i : Int) < (l.length : Int)) = True := by simp; omega
    have dci0 : ((0 : Int) ≤ (i : Int)) = True := by simp
    obtain ⟨x, hx⟩ : ∃ x, x = l[i] := ⟨_, rfl⟩
    have dcel : (l.map eK)[i]? = some (eK x) := by rw [List.getElem?_map, List.getElem?_eq_getElem hi, hx]; rfl
    rw [eK_eq] at dcel
    have dcw : IntKind.i64.wrap ((i : Int) + 1) = (i : Int) + 1 := wrap_i64 (by omega) (by omega)
    by_cases h1 : x.f0 = a ∧ x.f1 = b
    · have dc1 : (x.f0 == a) = true := by simpa using h1.1
      have dc2 : (x.f1 == b) = true := by simpa using h1.2
      repeat (first | (with_reducible refine AW.seq ?_) | (with_reducible refine AW.block ?_) | (with_reducible refine AW.skip ?_) | (with_reducible refine AW.ret ?_) | (with_reducible refine AW.exit ?_) | (with_reducible refine AW.reg hT ?_) | ((with_reducible refine AW.cond_true ?_ ?_); · rfl) | ((with_reducible refine AW.cond_false ?_ ?_); · rfl) | simp (maxSteps := 3000000) (maxDischargeDepth := 12) only [push_cast,appendX,reduceIte,reduceCtorEq,Nat.reduceSub,Nat.reduceAdd,Nat.reduceMul,Nat.reduceLT,Nat.reduceLeDiff,Nat.reduceEqDiff,Nat.reduceBEq,Int.reduceToNat,Int.reduceLT,Int.reduceLE,Int.reduceEq,Int.reduceNeg,Try.results30,dcml,dci,dci2,dci0,dcel,dcw,dc1,dc2])
      rw [fnd_at l a b i hi hno (by rw [← hx]; exact h1)]
    · have hdcb : ((x.f0 == a) = true ∧ (x.f1 == b) = false) ∨ (x.f0 == a) = false := by
        by_cases h : x.f0 = a
        · exact .inl ⟨by simpa using h, by simpa using fun h2 => h1 ⟨h, h2⟩⟩
        · exact .inr (by simpa using h)
      have hno' : ∀ y ∈ l.take (i + 1), ¬ (y.f0 = a ∧ y.f1 = b) := by
        rw [List.take_add_one, List.getElem?_eq_getElem hi, Option.toList_some, ← hx]
        intro y hy
        rcases List.mem_append.1 hy with hy | hy
        · exact hno y hy
        · rw [List.mem_singleton.1 hy]; exact h1
      clear h1
      rcases hdcb with ⟨dc1, dc2⟩ | dc1
      · repeat (first | (with_reducible refine AW.seq ?_) | (with_reducible refine AW.block ?_) | (with_reducible refine AW.skip ?_) | (with_reducible refine AW.ret ?_) | (with_reducible refine AW.exit ?_) | (with_reducible refine AW.reg hT ?_) | ((with_reducible refine AW.cond_true ?_ ?_); · rfl) | ((with_reducible refine AW.cond_false ?_ ?_); · rfl) | simp (maxSteps := 3000000) (maxDischargeDepth := 12) only [push_cast,appendX,reduceIte,reduceCtorEq,Nat.reduceSub,Nat.reduceAdd,Nat.reduceMul,Nat.reduceLT,Nat.reduceLeDiff,Nat.reduceEqDiff,Nat.reduceBEq,Int.reduceToNat,Int.reduceLT,Int.reduceLE,Int.reduceEq,Int.reduceNeg,Try.results30,dc2,dcml,dci,dci2,dci0,dcel,dcw,dc1])
        exact ⟨l.length + 1 - (i + 1), by omega, i + 1, rfl, hi, hno', rfl, by (simp only [push_cast, TellsL, tells_any, tells_refl])⟩
      · repeat (first | (with_reducible refine AW.seq ?_) | (with_reducible refine AW.block ?_) | (with_reducible refine AW.skip ?_) | (with_reducible refine AW.ret ?_) | (with_reducible refine AW.exit ?_) | (with_reducible refine AW.reg hT ?_) | ((with_reducible refine AW.cond_true ?_ ?_); · rfl) | ((with_reducible refine AW.cond_false ?_ ?_); · rfl) | simp (maxSteps := 3000000) (maxDischargeDepth := 12) only [push_cast,appendX,reduceIte,reduceCtorEq,Nat.reduceSub,Nat.reduceAdd,Nat.reduceMul,Nat.reduceLT,Nat.reduceLeDiff,Nat.reduceEqDiff,Nat.reduceBEq,Int.reduceToNat,Int.reduceLT,Int.reduceLE,Int.reduceEq,Int.reduceNeg,Try.results30,dcml,dci,dci2,dci0,dcel,dcw,dc1])
        exact ⟨l.length + 1 - (i + 1), by omega, i + 1, rfl, hi, hno', rfl, by (simp only [push_cast, TellsL, tells_any, tells_refl])⟩
  · have dci : decide ((i : Int) < (l.length : Int)) = false := by simp; omega
    have he : i = l.length := by omega
    subst he
    rw [List.take_length] at hno
    repeat (first | (with_reducible refine AW.seq ?_) | (with_reducible refine AW.block ?_) | (with_reducible refine AW.skip ?_) | (with_reducible refine AW.ret ?_) | (with_reducible refine AW.exit ?_) | (with_reducible refine AW.reg hT ?_) | ((with_reducible refine AW.cond_true ?_ ?_); · rfl) | ((with_reducible refine AW.cond_false ?_ ?_); · rfl) | simp (maxSteps := 3000000) (maxDischargeDepth := 12) only [push_cast,appendX,reduceIte,reduceCtorEq,Nat.reduceSub,Nat.reduceAdd,Nat.reduceMul,Nat.reduceLT,Nat.reduceLeDiff,Nat.reduceEqDiff,Nat.reduceBEq,Int.reduceToNat,Int.reduceLT,Int.reduceLE,Int.reduceEq,Int.reduceNeg,Try.results30,dcml,dci])
    rw [fnd_none l a b hno]
def rcI (n : Int) (l : List Lk) (σ0 : Heap) (m : Nat) (ts : List DV) (σ : Heap) : Prop := ∃ i, m = l.length + 1 - i ∧ i ≤ l.length ∧ ckOk n (l.take i) ∧ Ext [] σ0 σ ∧ TellsL ts (.sc (.int .i64 n) :: .imm (l.map eK) :: .any :: .any :: .any :: .sc (.int .i64 i) :: .any :: .any :: .any :: .any :: .any :: .any :: .any :: .any :: .any :: .any :: .any :: .any :: .any :: .any :: .any :: .any :: .any :: .any :: .any :: .any :: .any :: .any :: .any :: .any :: .any :: .any :: .any :: .any :: .any :: .any :: .any :: .any :: .any :: .any :: .any :: .any :: .any :: .any :: .any :: .any :: .any :: .any :: .any :: .any :: .any :: .any :: .any :: .any :: .any :: .any :: .any :: .any :: .any :: .any :: .any :: .any :: .any :: .any :: .any :: .any :: .any :: .any :: .any :: .any :: .any :: .any :: .any :: [])
theorem rcheck_ok (σ : Heap) (n : Int) (l : List Lk) : ACalls Try.prog 12 [.sc (.int .i64 n), .imm (l.map eK)] σ (fun x σ' => x = .sc (.int .i64 (chk n l)) ∧ Ext [] σ σ') := by
  have dcml : (l.map eK).length = l.length := by simp
  refine ACalls.code hT Try.func12 rfl ?_
  simp only [Try.ntmps12, List.length_cons, List.length_nil, Nat.reduceSub, Nat.reduceAdd, List.replicate, List.cons_append, List.nil_append]
  by_cases h1 : n < 1
  · have dc1 : decide (n < 1) = true := by simpa using h1
    repeat (first | (with_reducible refine AW.seq ?_) | (with_reducible refine AW.block ?_) | (with_reducible refine AW.skip ?_) | (with_reducible refine AW.ret ?_) | (with_reducible refine AW.exit ?_) | (with_reducible refine AW.reg hT ?_) | ((with_reducible refine AW.cond_true ?_ ?_); · rfl) | ((with_reducible refine AW.cond_false ?_ ?_); · rfl) | simp (maxSteps := 3000000) (maxDischargeDepth := 12) only [push_cast,appendX,reduceIte,reduceCtorEq,Nat.reduceSub,Nat.reduceAdd,Nat.reduceMul,Nat.reduceLT,Nat.reduceLeDiff,Nat.reduceEqDiff,Nat.reduceBEq,Int.reduceToNat,Int.reduceLT,Int.reduceLE,Int.reduceEq,Int.reduceNeg,Try.results12,dcml,dc1])
    exact ⟨by simp [chk, h1], Ext.refl _ _⟩
  have dc1 : decide (n < 1) = false := by simpa using h1
  by_cases h2 : 16 < n
  · have dc2 : decide (16 < n) = true := by simpa using h2
    repeat (first | (with_reducible refine AW.seq ?_) | (with_reducible refine AW.block ?_) | (with_reducible refine AW.skip ?_) | (with_reducible refine AW.ret ?_) | (with_reducible refine AW.exit ?_) | (with_reducible refine AW.reg hT ?_) | ((with_reducible refine AW.cond_true ?_ ?_); · rfl) | ((with_reducible refine AW.cond_false ?_ ?_); · rfl) | simp (maxSteps := 3000000) (maxDischargeDepth := 12) only [push_cast,appendX,reduceIte,reduceCtorEq,Nat.reduceSub,Nat.reduceAdd,Nat.reduceMul,Nat.reduceLT,Nat.reduceLeDiff,Nat.reduceEqDiff,Nat.reduceBEq,Int.reduceToNat,Int.reduceLT,Int.reduceLE,Int.reduceEq,Int.reduceNeg,Try.results12,dcml,dc1,dc2])
    exact ⟨by simp [chk, h2], Ext.refl _ _⟩
  have dc2 : decide (16 < n) = false := by simpa using h2
  by_cases h3 : 64 < (l.length : Int)
  · have dc3 : decide (64 < (l.length : Int)) = true := by simpa using h3
    repeat (first | (with_reducible refine AW.seq ?_) | (with_reducible refine AW.block ?_) | (with_reducible refine AW.skip ?_) | (with_reducible refine AW.ret ?_) | (with_reducible refine AW.exit ?_) | (with_reducible refine AW.reg hT ?_) | ((with_reducible refine AW.cond_true ?_ ?_); · rfl) | ((with_reducible refine AW.cond_false ?_ ?_); · rfl) | simp (maxSteps := 3000000) (maxDischargeDepth := 12) only [push_cast,appendX,reduceIte,reduceCtorEq,Nat.reduceSub,Nat.reduceAdd,Nat.reduceMul,Nat.reduceLT,Nat.reduceLeDiff,Nat.reduceEqDiff,Nat.reduceBEq,Int.reduceToNat,Int.reduceLT,Int.reduceLE,Int.reduceEq,Int.reduceNeg,Try.results12,dcml,dc1,dc2,dc3])
    have h3' : 64 < l.length := by omega
    exact ⟨by simp [chk, h1, h2, h3'], Ext.refl _ _⟩
  have dc3 : decide (64 < (l.length : Int)) = false := by simpa using h3
  have h3' : ¬ 64 < l.length := by omega
  repeat (first | (with_reducible refine AW.seq ?_) | (with_reducible refine AW.block ?_) | (with_reducible refine AW.skip ?_) | (with_reducible refine AW.ret ?_) | (with_reducible refine AW.exit ?_) | (with_reducible refine AW.reg hT ?_) | ((with_reducible refine AW.cond_true ?_ ?_); · rfl) | ((with_reducible refine AW.cond_false ?_ ?_); · rfl) | simp (maxSteps := 3000000) (maxDischargeDepth := 12) only [push_cast,appendX,reduceIte,reduceCtorEq,Nat.reduceSub,Nat.reduceAdd,Nat.reduceMul,Nat.reduceLT,Nat.reduceLeDiff,Nat.reduceEqDiff,Nat.reduceBEq,Int.reduceToNat,Int.reduceLT,Int.reduceLE,Int.reduceEq,Int.reduceNeg,Try.results12,dcml,dc1,dc2,dc3])
  refine AW.loop (rcI n l σ) (m := l.length + 1) ⟨0, by simp, by simp, ⟨by simp, by simp⟩, Ext.refl _ _, by (simp only [push_cast, TellsL, tells_any, tells_refl])⟩ ?_
  rintro m ts σ3 ⟨i, rfl, hil, hck, xt3, hts⟩
  refine AW.told hts ?_
  clear hts
  by_cases hi : i < l.length
  · have dci : decide ((i : Int) < (l.length : Int)) = true := by simp; omega
    have dci2 : ((i : Int) < (l.length : Int)) = True := by simp; omega
    have dci0 : ((0 : Int) ≤ (i : Int)) = True := by simp
    obtain ⟨x, hx⟩ : ∃ x, x = l[i] := ⟨_, rfl⟩
    have dcel : (l.map eK)[i]? = some (eK x) := by rw [List.getElem?_map, List.getElem?_eq_getElem hi, hx]; rfl
    rw [eK_eq] at dcel
    have dcw : IntKind.i64.wrap ((i : Int) + 1) = (i : Int) + 1 := wrap_i64 (by omega) (by omega)
    have hct := ckOk_take n l i hi
    rw [← hx] at hct
    have hbad : ¬ (lkOk n x ∧ ∀ y ∈ l.take i, ¬ sameEnds y x) → chk n l = 2 := fun h => by
      have : ¬ ckOk n l := fun hc => h (hct.1 (ckOk_of n l (i + 1) hc)).2
      simp [chk, h1, h2, h3', this]
    by_cases hA0 : x.f0 < 0
    · have dcA0 : decide (x.f0 < 0) = true := by simpa using hA0
      repeat (first | (with_reducible refine AW.seq ?_) | (with_reducible refine AW.block ?_) | (with_reducible refine AW.skip ?_) | (with_reducible refine AW.ret ?_) | (with_reducible refine AW.exit ?_) | (with_reducible refine AW.reg hT ?_) | ((with_reducible refine AW.cond_true ?_ ?_); · rfl) | ((with_reducible refine AW.cond_false ?_ ?_); · rfl) | simp (maxSteps := 3000000) (maxDischargeDepth := 12) only [push_cast,appendX,reduceIte,reduceCtorEq,Nat.reduceSub,Nat.reduceAdd,Nat.reduceMul,Nat.reduceLT,Nat.reduceLeDiff,Nat.reduceEqDiff,Nat.reduceBEq,Int.reduceToNat,Int.reduceLT,Int.reduceLE,Int.reduceEq,Int.reduceNeg,Try.results12,dcml,dc1,dc2,dc3,xt3.2,xt3.ltT,xt3.leT,dci,dci2,dci0,dcel,dcw,dcA0])
      refine ⟨by rw [hbad]; rintro ⟨h, _⟩; unfold lkOk at h; omega, by repeat (first | exact Ext.refl _ _ | assumption | refine Ext.push ?_ _ | ((refine Ext.set ?_ ?_ _); rotate_left; · (simp (maxSteps := 3000000) (maxDischargeDepth := 12) only [push_cast, appendX, Nat.reduceAdd, Nat.reduceEqDiff, Nat.reduceLT, Nat.reduceLeDiff, reduceIte, reduceCtorEq, dcml, dc1, dc2, dc3, xt3.2, xt3.ltT, xt3.leT, dci, dci2, dci0, dcel, dcw, dcA0])) | ((refine Ext.then1 (by assumption) ?_ ?_); rotate_left; · (intro p hp _; first | assumption | exact List.mem_cons_of_mem _ hp | (cases hp; done) | (simp at hp; subst hp; simp))))⟩
    · have dcA0 : decide (x.f0 < 0) = false := by simpa using hA0
      by_cases hA1 : n ≤ x.f0
      · have dcA1 : decide (n ≤ x.f0) = true := by simpa using hA1
        repeat (first | (with_reducible refine AW.seq ?_) | (with_reducible refine AW.block ?_) | (with_reducible refine AW.skip ?_) | (with_reducible refine AW.ret ?_) | (with_reducible refine AW.exit ?_) | (with_reducible refine AW.reg hT ?_) | ((with_reducible refine AW.cond_true ?_ ?_); · rfl) | ((with_reducible refine AW.cond_false ?_ ?_); · rfl) | simp (maxSteps := 3000000) (maxDischargeDepth := 12) only [push_cast,appendX,reduceIte,reduceCtorEq,Nat.reduceSub,Nat.reduceAdd,Nat.reduceMul,Nat.reduceLT,Nat.reduceLeDiff,Nat.reduceEqDiff,Nat.reduceBEq,Int.reduceToNat,Int.reduceLT,Int.reduceLE,Int.reduceEq,Int.reduceNeg,Try.results12,dcml,dc1,dc2,dc3,xt3.2,xt3.ltT,xt3.leT,dci,dci2,dci0,dcel,dcw,dcA0,dcA1])
        refine ⟨by rw [hbad]; rintro ⟨h, _⟩; unfold lkOk at h; omega, by repeat (first | exact Ext.refl _ _ | assumption | refine Ext.push ?_ _ | ((refine Ext.set ?_ ?_ _); rotate_left; · (simp (maxSteps := 3000000) (maxDischargeDepth := 12) only [push_cast, appendX, Nat.reduceAdd, Nat.reduceEqDiff, Nat.reduceLT, Nat.reduceLeDiff, reduceIte, reduceCtorEq, dcml, dc1, dc2, dc3, xt3.2, xt3.ltT, xt3.leT, dci, dci2, dci0, dcel, dcw, dcA0, dcA1])) | ((refine Ext.then1 (by assumption) ?_ ?_); rotate_left; · (intro p hp _; first | assumption | exact List.mem_cons_of_mem _ hp | (cases hp; done) | (simp at hp; subst hp; simp))))⟩
      · have dcA1 : decide (n ≤ x.f0) = false := by simpa using hA1
        by_cases hA2 : x.f1 < 0
        · have dcA2 : decide (x.f1 < 0) = true := by simpa using hA2
          repeat (first | (with_reducible refine AW.seq ?_) | (with_reducible refine AW.block ?_) | (with_reducible refine AW.skip ?_) | (with_reducible refine AW.ret ?_) | (with_reducible refine AW.exit ?_) | (with_reducible refine AW.reg hT ?_) | ((with_reducible refine AW.cond_true ?_ ?_); · rfl) | ((with_reducible refine AW.cond_false ?_ ?_); · rfl) | simp (maxSteps := 3000000) (maxDischargeDepth := 12) only [push_cast,appendX,reduceIte,reduceCtorEq,Nat.reduceSub,Nat.reduceAdd,Nat.reduceMul,Nat.reduceLT,Nat.reduceLeDiff,Nat.reduceEqDiff,Nat.reduceBEq,Int.reduceToNat,Int.reduceLT,Int.reduceLE,Int.reduceEq,Int.reduceNeg,Try.results12,dcml,dc1,dc2,dc3,xt3.2,xt3.ltT,xt3.leT,dci,dci2,dci0,dcel,dcw,dcA0,dcA1,dcA2])
          refine ⟨by rw [hbad]; rintro ⟨h, _⟩; unfold lkOk at h; omega, by repeat (first | exact Ext.refl _ _ | assumption | refine Ext.push ?_ _ | ((refine Ext.set ?_ ?_ _); rotate_left; · (simp (maxSteps := 3000000) (maxDischargeDepth := 12) only [push_cast, appendX, Nat.reduceAdd, Nat.reduceEqDiff, Nat.reduceLT, Nat.reduceLeDiff, reduceIte, reduceCtorEq, dcml, dc1, dc2, dc3, xt3.2, xt3.ltT, xt3.leT, dci, dci2, dci0, dcel, dcw, dcA0, dcA1, dcA2])) | ((refine Ext.then1 (by assumption) ?_ ?_); rotate_left; · (intro p hp _; first | assumption | exact List.mem_cons_of_mem _ hp | (cases hp; done) | (simp at hp; subst hp; simp))))⟩
        · have dcA2 : decide (x.f1 < 0) = false := by simpa using hA2
          by_cases hA3 : n ≤ x.f1
          · have dcA3 : decide (n ≤ x.f1) = true := by simpa using hA3
            repeat (first | (with_reducible refine AW.seq ?_) | (with_reducible refine AW.block ?_) | (with_reducible refine AW.skip ?_) | (with_reducible refine AW.ret ?_) | (with_reducible refine AW.exit ?_) | (with_reducible refine AW.reg hT ?_) | ((with_reducible refine AW.cond_true ?_ ?_); · rfl) | ((with_reducible refine AW.cond_false ?_ ?_); · rfl) | simp (maxSteps := 3000000) (maxDischargeDepth := 12) only [push_cast,appendX,reduceIte,reduceCtorEq,Nat.reduceSub,Nat.reduceAdd,Nat.reduceMul,Nat.reduceLT,Nat.reduceLeDiff,Nat.reduceEqDiff,Nat.reduceBEq,Int.reduceToNat,Int.reduceLT,Int.reduceLE,Int.reduceEq,Int.reduceNeg,Try.results12,dcml,dc1,dc2,dc3,xt3.2,xt3.ltT,xt3.leT,dci,dci2,dci0,dcel,dcw,dcA0,dcA1,dcA2,dcA3])
            refine ⟨by rw [hbad]; rintro ⟨h, _⟩; unfold lkOk at h; omega, by repeat (first | exact Ext.refl _ _ | assumption | refine Ext.push ?_ _ | ((refine Ext.set ?_ ?_ _); rotate_left; · (simp (maxSteps := 3000000) (maxDischargeDepth := 12) only [push_cast, appendX, Nat.reduceAdd, Nat.reduceEqDiff, Nat.reduceLT, Nat.reduceLeDiff, reduceIte, reduceCtorEq, dcml, dc1, dc2, dc3, xt3.2, xt3.ltT, xt3.leT, dci, dci2, dci0, dcel, dcw, dcA0, dcA1, dcA2, dcA3])) | ((refine Ext.then1 (by assumption) ?_ ?_); rotate_left; · (intro p hp _; first | assumption | exact List.mem_cons_of_mem _ hp | (cases hp; done) | (simp at hp; subst hp; simp))))⟩
          · have dcA3 : decide (n ≤ x.f1) = false := by simpa using hA3
            by_cases hA4 : x.f0 = x.f1
            · have dcA4 : (x.f0 == x.f1) = true := by simpa using hA4
              repeat (first | (with_reducible refine AW.seq ?_) | (with_reducible refine AW.block ?_) | (with_reducible refine AW.skip ?_) | (with_reducible refine AW.ret ?_) | (with_reducible refine AW.exit ?_) | (with_reducible refine AW.reg hT ?_) | ((with_reducible refine AW.cond_true ?_ ?_); · rfl) | ((with_reducible refine AW.cond_false ?_ ?_); · rfl) | simp (maxSteps := 3000000) (maxDischargeDepth := 12) only [push_cast,appendX,reduceIte,reduceCtorEq,Nat.reduceSub,Nat.reduceAdd,Nat.reduceMul,Nat.reduceLT,Nat.reduceLeDiff,Nat.reduceEqDiff,Nat.reduceBEq,Int.reduceToNat,Int.reduceLT,Int.reduceLE,Int.reduceEq,Int.reduceNeg,Try.results12,dcml,dc1,dc2,dc3,xt3.2,xt3.ltT,xt3.leT,dci,dci2,dci0,dcel,dcw,dcA0,dcA1,dcA2,dcA3,dcA4])
              refine ⟨by rw [hbad]; rintro ⟨h, _⟩; unfold lkOk at h; omega, by repeat (first | exact Ext.refl _ _ | assumption | refine Ext.push ?_ _ | ((refine Ext.set ?_ ?_ _); rotate_left; · (simp (maxSteps := 3000000) (maxDischargeDepth := 12) only [push_cast, appendX, Nat.reduceAdd, Nat.reduceEqDiff, Nat.reduceLT, Nat.reduceLeDiff, reduceIte, reduceCtorEq, dcml, dc1, dc2, dc3, xt3.2, xt3.ltT, xt3.leT, dci, dci2, dci0, dcel, dcw, dcA0, dcA1, dcA2, dcA3, dcA4])) | ((refine Ext.then1 (by assumption) ?_ ?_); rotate_left; · (intro p hp _; first | assumption | exact List.mem_cons_of_mem _ hp | (cases hp; done) | (simp at hp; subst hp; simp))))⟩
            · have dcA4 : (x.f0 == x.f1) = false := by simpa using hA4
              by_cases hA5 : x.f3 < 1
              · have dcA5 : decide (x.f3 < 1) = true := by simpa using hA5
                repeat (first | (with_reducible refine AW.seq ?_) | (with_reducible refine AW.block ?_) | (with_reducible refine AW.skip ?_) | (with_reducible refine AW.ret ?_) | (with_reducible refine AW.exit ?_) | (with_reducible refine AW.reg hT ?_) | ((with_reducible refine AW.cond_true ?_ ?_); · rfl) | ((with_reducible refine AW.cond_false ?_ ?_); · rfl) | simp (maxSteps := 3000000) (maxDischargeDepth := 12) only [push_cast,appendX,reduceIte,reduceCtorEq,Nat.reduceSub,Nat.reduceAdd,Nat.reduceMul,Nat.reduceLT,Nat.reduceLeDiff,Nat.reduceEqDiff,Nat.reduceBEq,Int.reduceToNat,Int.reduceLT,Int.reduceLE,Int.reduceEq,Int.reduceNeg,Try.results12,dcml,dc1,dc2,dc3,xt3.2,xt3.ltT,xt3.leT,dci,dci2,dci0,dcel,dcw,dcA0,dcA1,dcA2,dcA3,dcA4,dcA5])
                refine ⟨by rw [hbad]; rintro ⟨h, _⟩; unfold lkOk at h; omega, by repeat (first | exact Ext.refl _ _ | assumption | refine Ext.push ?_ _ | ((refine Ext.set ?_ ?_ _); rotate_left; · (simp (maxSteps := 3000000) (maxDischargeDepth := 12) only [push_cast, appendX, Nat.reduceAdd, Nat.reduceEqDiff, Nat.reduceLT, Nat.reduceLeDiff, reduceIte, reduceCtorEq, dcml, dc1, dc2, dc3, xt3.2, xt3.ltT, xt3.leT, dci, dci2, dci0, dcel, dcw, dcA0, dcA1, dcA2, dcA3, dcA4, dcA5])) | ((refine Ext.then1 (by assumption) ?_ ?_); rotate_left; · (intro p hp _; first | assumption | exact List.mem_cons_of_mem _ hp | (cases hp; done) | (simp at hp; subst hp; simp))))⟩
              · have dcA5 : decide (x.f3 < 1) = false := by simpa using hA5
                by_cases hA6 : 65535 < x.f3
                · have dcA6 : decide (65535 < x.f3) = true := by simpa using hA6
                  repeat (first | (with_reducible refine AW.seq ?_) | (with_reducible refine AW.block ?_) | (with_reducible refine AW.skip ?_) | (with_reducible refine AW.ret ?_) | (with_reducible refine AW.exit ?_) | (with_reducible refine AW.reg hT ?_) | ((with_reducible refine AW.cond_true ?_ ?_); · rfl) | ((with_reducible refine AW.cond_false ?_ ?_); · rfl) | simp (maxSteps := 3000000) (maxDischargeDepth := 12) only [push_cast,appendX,reduceIte,reduceCtorEq,Nat.reduceSub,Nat.reduceAdd,Nat.reduceMul,Nat.reduceLT,Nat.reduceLeDiff,Nat.reduceEqDiff,Nat.reduceBEq,Int.reduceToNat,Int.reduceLT,Int.reduceLE,Int.reduceEq,Int.reduceNeg,Try.results12,dcml,dc1,dc2,dc3,xt3.2,xt3.ltT,xt3.leT,dci,dci2,dci0,dcel,dcw,dcA0,dcA1,dcA2,dcA3,dcA4,dcA5,dcA6])
                  refine ⟨by rw [hbad]; rintro ⟨h, _⟩; unfold lkOk at h; omega, by repeat (first | exact Ext.refl _ _ | assumption | refine Ext.push ?_ _ | ((refine Ext.set ?_ ?_ _); rotate_left; · (simp (maxSteps := 3000000) (maxDischargeDepth := 12) only [push_cast, appendX, Nat.reduceAdd, Nat.reduceEqDiff, Nat.reduceLT, Nat.reduceLeDiff, reduceIte, reduceCtorEq, dcml, dc1, dc2, dc3, xt3.2, xt3.ltT, xt3.leT, dci, dci2, dci0, dcel, dcw, dcA0, dcA1, dcA2, dcA3, dcA4, dcA5, dcA6])) | ((refine Ext.then1 (by assumption) ?_ ?_); rotate_left; · (intro p hp _; first | assumption | exact List.mem_cons_of_mem _ hp | (cases hp; done) | (simp at hp; subst hp; simp))))⟩
                · have dcA6 : decide (65535 < x.f3) = false := by simpa using hA6
                  repeat (first | (with_reducible refine AW.seq ?_) | (with_reducible refine AW.block ?_) | (with_reducible refine AW.skip ?_) | (with_reducible refine AW.ret ?_) | (with_reducible refine AW.exit ?_) | (with_reducible refine AW.reg hT ?_) | ((with_reducible refine AW.cond_true ?_ ?_); · rfl) | ((with_reducible refine AW.cond_false ?_ ?_); · rfl) | simp (maxSteps := 3000000) (maxDischargeDepth := 12) only [push_cast,appendX,reduceIte,reduceCtorEq,Nat.reduceSub,Nat.reduceAdd,Nat.reduceMul,Nat.reduceLT,Nat.reduceLeDiff,Nat.reduceEqDiff,Nat.reduceBEq,Int.reduceToNat,Int.reduceLT,Int.reduceLE,Int.reduceEq,Int.reduceNeg,Try.results12,dcml,dc1,dc2,dc3,xt3.2,xt3.ltT,xt3.leT,dci,dci2,dci0,dcel,dcw,dcA0,dcA1,dcA2,dcA3,dcA4,dcA5,dcA6])
                  refine AOpsL.call (first := []) (cap := []) hT rfl rfl rfl fn30 rfl (ACalls.mono (rfind_ok _ l x.f0 x.f1 (by omega)) ?_)
                  rintro y s' ⟨rfl, rfl⟩
                  by_cases hnew : ∀ y ∈ l.take i, ¬ sameEnds y x
                  · have hf : fnd l x.f0 x.f1 = (i : Int) := fnd_at l x.f0 x.f1 i hi hnew (by rw [← hx]; exact ⟨rfl, rfl⟩)
                    have dcf : (fnd l x.f0 x.f1 == (i : Int)) = true := by simpa using hf
                    repeat (first | (with_reducible refine AW.seq ?_) | (with_reducible refine AW.block ?_) | (with_reducible refine AW.skip ?_) | (with_reducible refine AW.ret ?_) | (with_reducible refine AW.exit ?_) | (with_reducible refine AW.reg hT ?_) | ((with_reducible refine AW.cond_true ?_ ?_); · rfl) | ((with_reducible refine AW.cond_false ?_ ?_); · rfl) | simp (maxSteps := 3000000) (maxDischargeDepth := 12) only [push_cast,appendX,reduceIte,reduceCtorEq,Nat.reduceSub,Nat.reduceAdd,Nat.reduceMul,Nat.reduceLT,Nat.reduceLeDiff,Nat.reduceEqDiff,Nat.reduceBEq,Int.reduceToNat,Int.reduceLT,Int.reduceLE,Int.reduceEq,Int.reduceNeg,Try.results12,dcml,dc1,dc2,dc3,xt3.2,xt3.ltT,xt3.leT,dci,dci2,dci0,dcel,dcw,dcA0,dcA1,dcA2,dcA3,dcA4,dcA5,dcA6,dcf])
                    exact ⟨l.length + 1 - (i + 1), by omega, i + 1, rfl, hi, hct.2 ⟨hck, by unfold lkOk; omega, hnew⟩, by repeat (first | exact Ext.refl _ _ | assumption | refine Ext.push ?_ _ | ((refine Ext.set ?_ ?_ _); rotate_left; · (simp (maxSteps := 3000000) (maxDischargeDepth := 12) only [push_cast, appendX, Nat.reduceAdd, Nat.reduceEqDiff, Nat.reduceLT, Nat.reduceLeDiff, reduceIte, reduceCtorEq, dcml, dc1, dc2, dc3, xt3.2, xt3.ltT, xt3.leT, dci, dci2, dci0, dcel, dcw, dcA0, dcA1, dcA2, dcA3, dcA4, dcA5, dcA6, dcf])) | ((refine Ext.then1 (by assumption) ?_ ?_); rotate_left; · (intro p hp _; first | assumption | exact List.mem_cons_of_mem _ hp | (cases hp; done) | (simp at hp; subst hp; simp)))), by (simp only [push_cast, TellsL, tells_any, tells_refl])⟩
                  · have hf : ¬ fnd l x.f0 x.f1 = (i : Int) := fun h => hnew fun y hy hs => by
                      unfold fnd at h
                      split at h
                      · rename_i k hk
                        rw [List.findIdx?_eq_some_iff_getElem] at hk
                        obtain ⟨h1, h2, h3⟩ := hk
                        obtain ⟨j, hj, rfl⟩ := List.mem_iff_getElem.1 hy
                        have hj2 : j < k := by simp at hj; omega
                        have := h3 j hj2
                        simp at this
                        simp at hs
                        exact this hs.1 hs.2
                      · omega
                    have dcf : (fnd l x.f0 x.f1 == (i : Int)) = false := by simpa using hf
                    repeat (first | (with_reducible refine AW.seq ?_) | (with_reducible refine AW.block ?_) | (with_reducible refine AW.skip ?_) | (with_reducible refine AW.ret ?_) | (with_reducible refine AW.exit ?_) | (with_reducible refine AW.reg hT ?_) | ((with_reducible refine AW.cond_true ?_ ?_); · rfl) | ((with_reducible refine AW.cond_false ?_ ?_); · rfl) | simp (maxSteps := 3000000) (maxDischargeDepth := 12) only [push_cast,appendX,reduceIte,reduceCtorEq,Nat.reduceSub,Nat.reduceAdd,Nat.reduceMul,Nat.reduceLT,Nat.reduceLeDiff,Nat.reduceEqDiff,Nat.reduceBEq,Int.reduceToNat,Int.reduceLT,Int.reduceLE,Int.reduceEq,Int.reduceNeg,Try.results12,dcml,dc1,dc2,dc3,xt3.2,xt3.ltT,xt3.leT,dci,dci2,dci0,dcel,dcw,dcA0,dcA1,dcA2,dcA3,dcA4,dcA5,dcA6,dcf])
                    refine ⟨by rw [hbad]; exact fun h => hnew h.2, by repeat (first | exact Ext.refl _ _ | assumption | refine Ext.push ?_ _ | ((refine Ext.set ?_ ?_ _); rotate_left; · (simp (maxSteps := 3000000) (maxDischargeDepth := 12) only [push_cast, appendX, Nat.reduceAdd, Nat.reduceEqDiff, Nat.reduceLT, Nat.reduceLeDiff, reduceIte, reduceCtorEq, dcml, dc1, dc2, dc3, xt3.2, xt3.ltT, xt3.leT, dci, dci2, dci0, dcel, dcw, dcA0, dcA1, dcA2, dcA3, dcA4, dcA5, dcA6, dcf])) | ((refine Ext.then1 (by assumption) ?_ ?_); rotate_left; · (intro p hp _; first | assumption | exact List.mem_cons_of_mem _ hp | (cases hp; done) | (simp at hp; subst hp; simp))))⟩
  · have dci : decide ((i : Int) < (l.length : Int)) = false := by simp; omega
    have he : i = l.length := by omega
    subst he
    rw [List.take_length] at hck
    repeat (first | (with_reducible refine AW.seq ?_) | (with_reducible refine AW.block ?_) | (with_reducible refine AW.skip ?_) | (with_reducible refine AW.ret ?_) | (with_reducible refine AW.exit ?_) | (with_reducible refine AW.reg hT ?_) | ((with_reducible refine AW.cond_true ?_ ?_); · rfl) | ((with_reducible refine AW.cond_false ?_ ?_); · rfl) | simp (maxSteps := 3000000) (maxDischargeDepth := 12) only [push_cast,appendX,reduceIte,reduceCtorEq,Nat.reduceSub,Nat.reduceAdd,Nat.reduceMul,Nat.reduceLT,Nat.reduceLeDiff,Nat.reduceEqDiff,Nat.reduceBEq,Int.reduceToNat,Int.reduceLT,Int.reduceLE,Int.reduceEq,Int.reduceNeg,Try.results12,dcml,dc1,dc2,dc3,xt3.2,xt3.ltT,xt3.leT,dci])
    exact ⟨by simp [chk, h1, h2, h3', hck], xt3⟩
end Go.Proofs.Ytkcccomdamdocaa.Cm
