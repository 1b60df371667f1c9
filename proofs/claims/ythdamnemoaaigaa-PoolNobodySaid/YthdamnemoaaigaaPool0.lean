/- Package pool: the told pool; New, Take, Drop, Left. -/
import Derived.Test.YthdamnemoaaigaaCmRange
import Derived.Test.YthdamnemoaaigaaCmLib3
namespace Go.Proofs.Ythdamnemoaaigaa.Cm
open Go.RowKit
set_option linter.unusedVariables false
set_option linter.unusedSimpArgs false
set_option maxRecDepth 20000
set_option maxHeartbeats 8000000
theorem int_key_law : Maps.Keyed Try.prog 3 := Maps.int_keyed Try.underlying3
theorem int_key (k : Int) (h : (Lit.int .i64 k).wf = true) : keyOf Try.prog 3 (.int .i64 k) = some (.int .i64 k) := Maps.keyOf_int_mk Try.underlying3 h
/-- An entry: a label, and its stamp. -/
def mE (e : Int × DV) : List DV := [.sc (.int .i64 e.1), .sc (.int .i64 e.1), e.2]
/-- A pool's own object, and its map. -/
def pO (nx hi : Int) (t : Nat) : AObj := ⟨[[.sc (.int .i64 nx), .sc (.int .i64 hi), .mp t]], 51, true⟩
def pM (E : List (Int × DV)) : AObj := ⟨E.map mE, 49, none⟩
structure Pl (σ : Heap) (p t : Nat) (nx hi : Int) (E : List (Int × DV)) : Prop where
  po : σ.get p = some (pO nx hi t)
  pm : σ.get t = some (pM E)
theorem Pl.ne {σ : Heap} {p t : Nat} {nx hi : Int} {E : List (Int × DV)} (h : Pl σ p t nx hi E) : p ≠ t := by
  rintro rfl
  have := h.po.symm.trans h.pm
  simp [pO, pM] at this
theorem Pl.frame {σ σ' : Heap} {p t : Nat} {nx hi : Int} {E : List (Int × DV)} (h : Pl σ p t nx hi E) (hx : Ext [] σ σ') : Pl σ' p t nx hi E := ⟨hx.get h.po (by simp), hx.get h.pm (by simp)⟩
theorem good_ok (σ : Heap) {p t : Nat} {nx hi : Int} (h : σ.get p = some (pO nx hi t)) : ACalls Try.prog 21 [.ptr p 0 0 1] σ (fun y σ' => y = .sc (.bool true) ∧ σ' = σ) := by
  have gtp := h
  unfold pO at gtp
  refine ACalls.code hT Try.func21 rfl ?_
  simp only [Try.ntmps21, List.length_cons, List.length_nil, Nat.reduceSub, Nat.reduceAdd, List.replicate, List.cons_append, List.nil_append]
  repeat (first | (with_reducible refine AW.seq ?_) | (with_reducible refine AW.block ?_) | (with_reducible refine AW.skip ?_) | (with_reducible refine AW.ret ?_) | (with_reducible refine AW.exit ?_) | (with_reducible refine AW.reg hT ?_) | ((with_reducible refine AW.cond_true ?_ ?_); · rfl) | ((with_reducible refine AW.cond_false ?_ ?_); · rfl) | simp (maxSteps := 3000000) (maxDischargeDepth := 12) only [push_cast,appendX,reduceIte,reduceCtorEq,Nat.reduceSub,Nat.reduceAdd,Nat.reduceMul,Nat.reduceLT,Nat.reduceLeDiff,Nat.reduceEqDiff,Nat.reduceBEq,Int.reduceToNat,Int.reduceLT,Int.reduceLE,Int.reduceEq,Int.reduceNeg,Try.results21,gtp,Heap.lt gtp])
  refine AOpsL.rule hT rfl (AOp.neqNilMap (t := t) hT rfl rfl rfl rfl ?_)
  repeat (first | (with_reducible refine AW.seq ?_) | (with_reducible refine AW.block ?_) | (with_reducible refine AW.skip ?_) | (with_reducible refine AW.ret ?_) | (with_reducible refine AW.exit ?_) | (with_reducible refine AW.reg hT ?_) | ((with_reducible refine AW.cond_true ?_ ?_); · rfl) | ((with_reducible refine AW.cond_false ?_ ?_); · rfl) | simp (maxSteps := 3000000) (maxDischargeDepth := 12) only [push_cast,appendX,reduceIte,reduceCtorEq,Nat.reduceSub,Nat.reduceAdd,Nat.reduceMul,Nat.reduceLT,Nat.reduceLeDiff,Nat.reduceEqDiff,Nat.reduceBEq,Int.reduceToNat,Int.reduceLT,Int.reduceLE,Int.reduceEq,Int.reduceNeg,Try.results21,gtp,Heap.lt gtp])
theorem goodnil_ok (σ : Heap) : ACalls Try.prog 21 [.sc (.pointer none)] σ (fun y σ' => y = .sc (.bool false) ∧ σ' = σ) := by
  refine ACalls.code hT Try.func21 rfl ?_
  simp only [Try.ntmps21, List.length_cons, List.length_nil, Nat.reduceSub, Nat.reduceAdd, List.replicate, List.cons_append, List.nil_append]
  repeat (first | (with_reducible refine AW.seq ?_) | (with_reducible refine AW.block ?_) | (with_reducible refine AW.skip ?_) | (with_reducible refine AW.ret ?_) | (with_reducible refine AW.exit ?_) | (with_reducible refine AW.reg hT ?_) | ((with_reducible refine AW.cond_true ?_ ?_); · rfl) | ((with_reducible refine AW.cond_false ?_ ?_); · rfl) | simp (maxSteps := 3000000) (maxDischargeDepth := 12) only [push_cast,appendX,reduceIte,reduceCtorEq,Nat.reduceSub,Nat.reduceAdd,Nat.reduceMul,Nat.reduceLT,Nat.reduceLeDiff,Nat.reduceEqDiff,Nat.reduceBEq,Int.reduceToNat,Int.reduceLT,Int.reduceLE,Int.reduceEq,Int.reduceNeg,Try.results21])
def right (lo hi : Int) : Prop := 16 ≤ lo ∧ hi ≤ 1048575 ∧ lo ≤ hi
instance (lo hi : Int) : Decidable (right lo hi) := by unfold right; infer_instance
theorem pnew_ok (σ : Heap) (lo hi : Int) : ACalls Try.prog 9 [.sc (.int .i64 lo), .sc (.int .i64 hi)] σ (fun y σ' => (¬ right lo hi ∧ y = .sc (.pointer none) ∧ σ' = σ) ∨ (right lo hi ∧ ∃ p t, y = .ptr p 0 0 1 ∧ Pl σ' p t lo hi [] ∧ σ.n ≤ p ∧ σ.n ≤ t ∧ Ext [] σ σ')) := by
  refine ACalls.code hT Try.func9 rfl ?_
  simp only [Try.ntmps9, List.length_cons, List.length_nil, Nat.reduceSub, Nat.reduceAdd, List.replicate, List.cons_append, List.nil_append]
  by_cases h1 : lo < 16
  · have dc1 : decide (lo < 16) = true := decide_eq_true h1
    repeat (first | (with_reducible refine AW.seq ?_) | (with_reducible refine AW.block ?_) | (with_reducible refine AW.skip ?_) | (with_reducible refine AW.ret ?_) | (with_reducible refine AW.exit ?_) | (with_reducible refine AW.reg hT ?_) | ((with_reducible refine AW.cond_true ?_ ?_); · rfl) | ((with_reducible refine AW.cond_false ?_ ?_); · rfl) | simp (maxSteps := 3000000) (maxDischargeDepth := 12) only [push_cast,appendX,reduceIte,reduceCtorEq,Nat.reduceSub,Nat.reduceAdd,Nat.reduceMul,Nat.reduceLT,Nat.reduceLeDiff,Nat.reduceEqDiff,Nat.reduceBEq,Int.reduceToNat,Int.reduceLT,Int.reduceLE,Int.reduceEq,Int.reduceNeg,Try.results9,dc1])
    exact .inl (fun h => by unfold right at h; omega)
  have dc1 : decide (lo < 16) = false := decide_eq_false h1
  by_cases h2 : 1048575 < hi
  · have dc2 : decide (1048575 < hi) = true := decide_eq_true h2
    repeat (first | (with_reducible refine AW.seq ?_) | (with_reducible refine AW.block ?_) | (with_reducible refine AW.skip ?_) | (with_reducible refine AW.ret ?_) | (with_reducible refine AW.exit ?_) | (with_reducible refine AW.reg hT ?_) | ((with_reducible refine AW.cond_true ?_ ?_); · rfl) | ((with_reducible refine AW.cond_false ?_ ?_); · rfl) | simp (maxSteps := 3000000) (maxDischargeDepth := 12) only [push_cast,appendX,reduceIte,reduceCtorEq,Nat.reduceSub,Nat.reduceAdd,Nat.reduceMul,Nat.reduceLT,Nat.reduceLeDiff,Nat.reduceEqDiff,Nat.reduceBEq,Int.reduceToNat,Int.reduceLT,Int.reduceLE,Int.reduceEq,Int.reduceNeg,Try.results9,dc1,dc2])
    exact .inl (fun h => by unfold right at h; omega)
  have dc2 : decide (1048575 < hi) = false := decide_eq_false h2
  by_cases h3 : hi < lo
  · have dc3 : decide (hi < lo) = true := decide_eq_true h3
    repeat (first | (with_reducible refine AW.seq ?_) | (with_reducible refine AW.block ?_) | (with_reducible refine AW.skip ?_) | (with_reducible refine AW.ret ?_) | (with_reducible refine AW.exit ?_) | (with_reducible refine AW.reg hT ?_) | ((with_reducible refine AW.cond_true ?_ ?_); · rfl) | ((with_reducible refine AW.cond_false ?_ ?_); · rfl) | simp (maxSteps := 3000000) (maxDischargeDepth := 12) only [push_cast,appendX,reduceIte,reduceCtorEq,Nat.reduceSub,Nat.reduceAdd,Nat.reduceMul,Nat.reduceLT,Nat.reduceLeDiff,Nat.reduceEqDiff,Nat.reduceBEq,Int.reduceToNat,Int.reduceLT,Int.reduceLE,Int.reduceEq,Int.reduceNeg,Try.results9,dc1,dc2,dc3])
    exact .inl (fun h => by unfold right at h; omega)
  have dc3 : decide (hi < lo) = false := decide_eq_false h3
  repeat (first | (with_reducible refine AW.seq ?_) | (with_reducible refine AW.block ?_) | (with_reducible refine AW.skip ?_) | (with_reducible refine AW.ret ?_) | (with_reducible refine AW.exit ?_) | (with_reducible refine AW.reg hT ?_) | ((with_reducible refine AW.cond_true ?_ ?_); · rfl) | ((with_reducible refine AW.cond_false ?_ ?_); · rfl) | simp (maxSteps := 3000000) (maxDischargeDepth := 12) only [push_cast,appendX,reduceIte,reduceCtorEq,Nat.reduceSub,Nat.reduceAdd,Nat.reduceMul,Nat.reduceLT,Nat.reduceLeDiff,Nat.reduceEqDiff,Nat.reduceBEq,Int.reduceToNat,Int.reduceLT,Int.reduceLE,Int.reduceEq,Int.reduceNeg,Try.results9,dc1,dc2,dc3])
  refine AOpsL.rule hT rfl (AOp.makeMap hT rfl rfl (by decide) ?_)
  repeat (first | (with_reducible refine AW.seq ?_) | (with_reducible refine AW.block ?_) | (with_reducible refine AW.skip ?_) | (with_reducible refine AW.ret ?_) | (with_reducible refine AW.exit ?_) | (with_reducible refine AW.reg hT ?_) | ((with_reducible refine AW.cond_true ?_ ?_); · rfl) | ((with_reducible refine AW.cond_false ?_ ?_); · rfl) | simp (maxSteps := 3000000) (maxDischargeDepth := 12) only [push_cast,appendX,reduceIte,reduceCtorEq,Nat.reduceSub,Nat.reduceAdd,Nat.reduceMul,Nat.reduceLT,Nat.reduceLeDiff,Nat.reduceEqDiff,Nat.reduceBEq,Int.reduceToNat,Int.reduceLT,Int.reduceLE,Int.reduceEq,Int.reduceNeg,Try.results9,dc1,dc2,dc3])
  refine ⟨by unfold right; omega, σ.n + 1, σ.n, rfl, ⟨by simp (maxSteps := 3000000) (maxDischargeDepth := 12) only [push_cast, appendX, Nat.reduceAdd, Nat.reduceEqDiff, Nat.reduceLT, Nat.reduceLeDiff, reduceIte, reduceCtorEq, pO, dc1, dc2, dc3], by simp (maxSteps := 3000000) (maxDischargeDepth := 12) only [push_cast, appendX, Nat.reduceAdd, Nat.reduceEqDiff, Nat.reduceLT, Nat.reduceLeDiff, reduceIte, reduceCtorEq, pM, List.map_nil, dc1, dc2, dc3]⟩, by omega, by omega, by repeat (first | exact Ext.refl _ _ | assumption | refine Ext.push ?_ _ | ((refine Ext.set ?_ ?_ _); rotate_left; · (simp (maxSteps := 3000000) (maxDischargeDepth := 12) only [push_cast, appendX, Nat.reduceAdd, Nat.reduceEqDiff, Nat.reduceLT, Nat.reduceLeDiff, reduceIte, reduceCtorEq, dc1, dc2, dc3])) | ((refine Ext.then1 (by assumption) ?_ ?_); rotate_left; · (intro p hp _; first | assumption | exact List.mem_cons_of_mem _ hp | (cases hp; done) | (simp at hp; subst hp; simp))))⟩
end Go.Proofs.Ythdamnemoaaigaa.Cm
