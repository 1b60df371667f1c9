/- Which adverts may be: package tedb's May, and the document's. -/
import Derived.Test.YtkcccomdamdocaaGraph0
namespace Go.Proofs.Ytkcccomdamdocaa.Cm
open Go.RowKit
set_option linter.unusedVariables false
set_option linter.unusedSimpArgs false
set_option maxRecDepth 20000
set_option maxHeartbeats 8000000
abbrev Ad := S42
abbrev eA := e42
abbrev wA := w42
theorem eA_eq (x : Ad) : eA x = [.sc (.int .i64 x.f0.f0), .sc (.int .i64 x.f0.f1), .sc (.int .u64 x.f0.f2), .sc (.int .i64 x.f0.f3), .sc (.int .u32 x.f0.f4), .sc (.int .i64 x.f1), .sc (.bool x.f2), .sc (.int .u64 x.f3.f0), .sc (.int .u64 x.f3.f1), .sc (.int .u64 x.f3.f2), .sc (.int .u64 x.f3.f3), .sc (.int .u64 x.f3.f4), .sc (.int .u64 x.f3.f5), .sc (.int .u64 x.f3.f6), .sc (.int .u64 x.f3.f7)] := rfl
def nth (x : Ad) : Nat → Int
  | 0 => x.f0.f2
  | 1 => x.f3.f0
  | 2 => x.f3.f1
  | 3 => x.f3.f2
  | 4 => x.f3.f3
  | 5 => x.f3.f4
  | 6 => x.f3.f5
  | 7 => x.f3.f6
  | 8 => x.f3.f7
  | _ => 0
def falls (x : Ad) : Prop := ∀ j, j < 8 → ¬ nth x j < nth x (j + 1)
instance (x : Ad) : Decidable (falls x) := by unfold falls; infer_instance
def mayA (x : Ad) : Prop := lkOk 16 x.f0 ∧ 0 ≤ x.f1 ∧ x.f1 ≤ 4294967295 ∧ falls x
instance (x : Ad) : Decidable (mayA x) := by unfold mayA; infer_instance
theorem chk_one (x : Lk) : chk 16 [x] = if lkOk 16 x then 0 else 2 := by
  simp [chk, ckOk]
theorem pcheck_hold (σ : Heap) (n : Int) (l : List Lk) (hw : ∀ x ∈ l, wK x) {d : DV} (hh : Hold σ d 37 (l.map eK)) : ACalls Try.prog 29 [.sc (.int .i64 n), d] σ (fun x σ' => x = .sc (.int .i64 (chk n l)) ∧ Ext (tOf d) σ σ') :=
  ACalls.holdArg (j := 1) hh rfl (fun σ1 x1 => (pcheck_ok σ1 n l hw).mono (fun y σ2 h => ⟨h.1, x1.trans (h.2.mono (by simp))⟩))
def pmI (x : Ad) (σ0 : Heap) (m : Nat) (ts : List DV) (σ : Heap) : Prop := ∃ (i : Nat) (z : Int), m = 9 - i ∧ i ≤ 8 ∧ z = i ∧ (∀ j, j < i → ¬ nth x j < nth x (j + 1)) ∧ σ = σ0 ∧ TellsL ts (.any :: .any :: .any :: .sc (.int .u64 (nth x i)) :: .any :: .any :: .any :: .any :: .any :: .any :: .any :: .any :: .any :: .any :: .any :: .any :: .any :: .any :: .any :: .any :: .any :: .any :: .any :: .any :: .any :: .agg [.sc (.int .u64 x.f3.f0), .sc (.int .u64 x.f3.f1), .sc (.int .u64 x.f3.f2), .sc (.int .u64 x.f3.f3), .sc (.int .u64 x.f3.f4), .sc (.int .u64 x.f3.f5), .sc (.int .u64 x.f3.f6), .sc (.int .u64 x.f3.f7)] :: .sc (.int .i64 z) :: .any :: .any :: .any :: .any :: .any :: .any :: .any :: [])
theorem pmay_ok (σ : Heap) (x : Ad) (hw : wA x) : ACalls Try.prog 20 [.agg (eA x)] σ (fun y σ' => y = .sc (.bool (decide (mayA x))) ∧ Ext [] σ σ') := by
  simp only [eA_eq]
  refine ACalls.code hT Try.func20 rfl ?_
  simp only [Try.ntmps20, List.length_cons, List.length_nil, Nat.reduceSub, Nat.reduceAdd, List.replicate, List.cons_append, List.nil_append]
  repeat (first | (with_reducible refine AW.seq ?_) | (with_reducible refine AW.block ?_) | (with_reducible refine AW.skip ?_) | (with_reducible refine AW.ret ?_) | (with_reducible refine AW.exit ?_) | (with_reducible refine AW.reg hT ?_) | ((with_reducible refine AW.cond_true ?_ ?_); · rfl) | ((with_reducible refine AW.cond_false ?_ ?_); · rfl) | simp (maxSteps := 3000000) (maxDischargeDepth := 12) only [push_cast,appendX,reduceIte,reduceCtorEq,Nat.reduceSub,Nat.reduceAdd,Nat.reduceMul,Nat.reduceLT,Nat.reduceLeDiff,Nat.reduceEqDiff,Nat.reduceBEq,Int.reduceToNat,Int.reduceLT,Int.reduceLE,Int.reduceEq,Int.reduceNeg,Try.results20])
  refine AOpsL.call (first := []) (cap := []) hT rfl rfl rfl fn29 rfl (ACalls.mono (pcheck_hold _ 16 [x.f0] (by simpa using hw.1) (Hold.row (els := [eK x.f0]) (by simp (maxSteps := 3000000) (maxDischargeDepth := 12) only [push_cast, appendX, Nat.reduceAdd, Nat.reduceEqDiff, Nat.reduceLT, Nat.reduceLeDiff, reduceIte, reduceCtorEq, eK_eq]))) ?_)
  rintro y σ3 ⟨rfl, xt3⟩
  simp only [tOf] at xt3
  have gtA : σ3.get σ.n = some ⟨[eA x], 40, true⟩ := by simp (maxSteps := 3000000) (maxDischargeDepth := 12) only [push_cast, appendX, Nat.reduceAdd, Nat.reduceEqDiff, Nat.reduceLT, Nat.reduceLeDiff, reduceIte, reduceCtorEq, eA_eq, xt3.2, xt3.ltT, xt3.leT]
  rw [eA_eq] at gtA
  have xtB : Ext [] σ σ3 := Ext.then1 xt3 (by repeat (first | exact Ext.refl _ _ | assumption | refine Ext.push ?_ _ | ((refine Ext.set ?_ ?_ _); rotate_left; · (simp (maxSteps := 3000000) (maxDischargeDepth := 12) only [push_cast, appendX, Nat.reduceAdd, Nat.reduceEqDiff, Nat.reduceLT, Nat.reduceLeDiff, reduceIte, reduceCtorEq, xt3.2, xt3.ltT, xt3.leT, gtA, Heap.lt gtA])) | ((refine Ext.then1 (by assumption) ?_ ?_); rotate_left; · (intro p hp _; first | assumption | exact List.mem_cons_of_mem _ hp | (cases hp; done) | (simp at hp; subst hp; simp))))) (by intro p hp; simp at hp; omega)
  clear xt3
  rw [chk_one]
  by_cases h1 : lkOk 16 x.f0
  · rw [if_pos h1]
    have dcf : ((0 : Int) != 0) = false := by decide
    by_cases h2 : x.f1 < 0
    · have dc2 : decide (x.f1 < 0) = true := by simpa using h2
      repeat (first | (with_reducible refine AW.seq ?_) | (with_reducible refine AW.block ?_) | (with_reducible refine AW.skip ?_) | (with_reducible refine AW.ret ?_) | (with_reducible refine AW.exit ?_) | (with_reducible refine AW.reg hT ?_) | ((with_reducible refine AW.cond_true ?_ ?_); · rfl) | ((with_reducible refine AW.cond_false ?_ ?_); · rfl) | simp (maxSteps := 3000000) (maxDischargeDepth := 12) only [push_cast,appendX,reduceIte,reduceCtorEq,Nat.reduceSub,Nat.reduceAdd,Nat.reduceMul,Nat.reduceLT,Nat.reduceLeDiff,Nat.reduceEqDiff,Nat.reduceBEq,Int.reduceToNat,Int.reduceLT,Int.reduceLE,Int.reduceEq,Int.reduceNeg,Try.results20,gtA,Heap.lt gtA,xtB.2,xtB.ltT,xtB.leT,dcf,dc2])
      exact ⟨by have : ¬ mayA x := fun h => by have := h.2.1; omega
                simp [this], xtB⟩
    have dc2 : decide (x.f1 < 0) = false := by simpa using h2
    by_cases h3 : 4294967295 < x.f1
    · have dc3 : decide (4294967295 < x.f1) = true := by simpa using h3
      repeat (first | (with_reducible refine AW.seq ?_) | (with_reducible refine AW.block ?_) | (with_reducible refine AW.skip ?_) | (with_reducible refine AW.ret ?_) | (with_reducible refine AW.exit ?_) | (with_reducible refine AW.reg hT ?_) | ((with_reducible refine AW.cond_true ?_ ?_); · rfl) | ((with_reducible refine AW.cond_false ?_ ?_); · rfl) | simp (maxSteps := 3000000) (maxDischargeDepth := 12) only [push_cast,appendX,reduceIte,reduceCtorEq,Nat.reduceSub,Nat.reduceAdd,Nat.reduceMul,Nat.reduceLT,Nat.reduceLeDiff,Nat.reduceEqDiff,Nat.reduceBEq,Int.reduceToNat,Int.reduceLT,Int.reduceLE,Int.reduceEq,Int.reduceNeg,Try.results20,gtA,Heap.lt gtA,xtB.2,xtB.ltT,xtB.leT,dcf,dc2,dc3])
      exact ⟨by have : ¬ mayA x := fun h => by have := h.2.2.1; omega
                simp [this], xtB⟩
    have dc3 : decide (4294967295 < x.f1) = false := by simpa using h3
    repeat (first | (with_reducible refine AW.seq ?_) | (with_reducible refine AW.block ?_) | (with_reducible refine AW.skip ?_) | (with_reducible refine AW.ret ?_) | (with_reducible refine AW.exit ?_) | (with_reducible refine AW.reg hT ?_) | ((with_reducible refine AW.cond_true ?_ ?_); · rfl) | ((with_reducible refine AW.cond_false ?_ ?_); · rfl) | simp (maxSteps := 3000000) (maxDischargeDepth := 12) only [push_cast,appendX,reduceIte,reduceCtorEq,Nat.reduceSub,Nat.reduceAdd,Nat.reduceMul,Nat.reduceLT,Nat.reduceLeDiff,Nat.reduceEqDiff,Nat.reduceBEq,Int.reduceToNat,Int.reduceLT,Int.reduceLE,Int.reduceEq,Int.reduceNeg,Try.results20,gtA,Heap.lt gtA,xtB.2,xtB.ltT,xtB.leT,dcf,dc2,dc3])
    have dcu8 : ((1 : Int) + 1 + 1 + 1 + 1 + 1 + 1 + 1) = 8 := by decide
    refine AW.loop (pmI x σ3) (m := 9) ⟨0, 0, rfl, by omega, rfl, by simp, rfl, by (simp only [push_cast, TellsL, tells_any, tells_refl, nth])⟩ ?_
    rintro m ts σ4 ⟨i, z, rfl, hi, hz, hdn, rfl, hts⟩
    refine AW.told hts ?_
    clear hts
    by_cases h8 : i = 8
    · subst h8
      have dcz : decide (z < 8) = false := by simp; omega
      repeat (first | (with_reducible refine AW.seq ?_) | (with_reducible refine AW.block ?_) | (with_reducible refine AW.skip ?_) | (with_reducible refine AW.ret ?_) | (with_reducible refine AW.exit ?_) | (with_reducible refine AW.reg hT ?_) | ((with_reducible refine AW.cond_true ?_ ?_); · rfl) | ((with_reducible refine AW.cond_false ?_ ?_); · rfl) | simp (maxSteps := 3000000) (maxDischargeDepth := 12) only [push_cast,appendX,reduceIte,reduceCtorEq,Nat.reduceSub,Nat.reduceAdd,Nat.reduceMul,Nat.reduceLT,Nat.reduceLeDiff,Nat.reduceEqDiff,Nat.reduceBEq,Int.reduceToNat,Int.reduceLT,Int.reduceLE,Int.reduceEq,Int.reduceNeg,Try.results20,gtA,Heap.lt gtA,xtB.2,xtB.ltT,xtB.leT,dcf,dc2,dc3,dcu8,dcz])
      have : mayA x := ⟨h1, by omega, by omega, hdn⟩
      exact ⟨by simp [this], xtB⟩
    have dcz : decide (z < 8) = true := by simp; omega
    have dcz1 : (z < 8) = True := by simp; omega
    have dcz0 : (0 ≤ z) = True := by simp; omega
    have dczt : z.toNat = i := by omega
    have dcw : IntKind.i64.wrap (z + 1) = z + 1 := wrap_i64 (by omega) (by omega)
    have hdn' : ¬ nth x i < nth x (i + 1) → ∀ j, j < i + 1 → ¬ nth x j < nth x (j + 1) := fun h j hj => by
      by_cases hji : j = i
      · subst hji; exact h
      · exact hdn j (by omega)
    have hnm : nth x i < nth x (i + 1) → ¬ mayA x := fun h hm => hm.2.2.2 i (by omega) h
    by_cases hg : nth x i < nth x (i + 1)
    · have dcg : decide (nth x i < nth x (i + 1)) = true := by simpa using hg
      have hn := hnm hg
      clear hnm hdn hdn' hg
      obtain rfl | rfl | rfl | rfl | rfl | rfl | rfl | rfl : i = 0 ∨ i = 1 ∨ i = 2 ∨ i = 3 ∨ i = 4 ∨ i = 5 ∨ i = 6 ∨ i = 7 := by omega
      all_goals
        simp only [nth] at dcg
        repeat (first | (with_reducible refine AW.seq ?_) | (with_reducible refine AW.block ?_) | (with_reducible refine AW.skip ?_) | (with_reducible refine AW.ret ?_) | (with_reducible refine AW.exit ?_) | (with_reducible refine AW.reg hT ?_) | ((with_reducible refine AW.cond_true ?_ ?_); · rfl) | ((with_reducible refine AW.cond_false ?_ ?_); · rfl) | simp (maxSteps := 3000000) (maxDischargeDepth := 12) only [push_cast,appendX,reduceIte,reduceCtorEq,Nat.reduceSub,Nat.reduceAdd,Nat.reduceMul,Nat.reduceLT,Nat.reduceLeDiff,Nat.reduceEqDiff,Nat.reduceBEq,Int.reduceToNat,Int.reduceLT,Int.reduceLE,Int.reduceEq,Int.reduceNeg,Try.results20,nth,gtA,Heap.lt gtA,xtB.2,xtB.ltT,xtB.leT,dcf,dc2,dc3,dcu8,dcz,dcz1,dcz0,dczt,dcw,dcg])
        exact ⟨by simp [hn], xtB⟩
    · have dcg : decide (nth x i < nth x (i + 1)) = false := by simpa using hg
      have hd2 := hdn' hg
      clear hnm hdn hdn' hg
      obtain rfl | rfl | rfl | rfl | rfl | rfl | rfl | rfl : i = 0 ∨ i = 1 ∨ i = 2 ∨ i = 3 ∨ i = 4 ∨ i = 5 ∨ i = 6 ∨ i = 7 := by omega
      all_goals
        simp only [nth] at dcg
        repeat (first | (with_reducible refine AW.seq ?_) | (with_reducible refine AW.block ?_) | (with_reducible refine AW.skip ?_) | (with_reducible refine AW.ret ?_) | (with_reducible refine AW.exit ?_) | (with_reducible refine AW.reg hT ?_) | ((with_reducible refine AW.cond_true ?_ ?_); · rfl) | ((with_reducible refine AW.cond_false ?_ ?_); · rfl) | simp (maxSteps := 3000000) (maxDischargeDepth := 12) only [push_cast,appendX,reduceIte,reduceCtorEq,Nat.reduceSub,Nat.reduceAdd,Nat.reduceMul,Nat.reduceLT,Nat.reduceLeDiff,Nat.reduceEqDiff,Nat.reduceBEq,Int.reduceToNat,Int.reduceLT,Int.reduceLE,Int.reduceEq,Int.reduceNeg,Try.results20,nth,gtA,Heap.lt gtA,xtB.2,xtB.ltT,xtB.leT,dcf,dc2,dc3,dcu8,dcz,dcz1,dcz0,dczt,dcw,dcg])
        simp only [Nat.reduceAdd] at hd2
        exact ⟨_, by decide, _, z + 1, rfl, by decide, by omega, hd2, rfl, by (simp only [push_cast, TellsL, tells_any, tells_refl, nth])⟩
  · rw [if_neg h1]
    have dcf : ((2 : Int) == 0) = false := by decide
    repeat (first | (with_reducible refine AW.seq ?_) | (with_reducible refine AW.block ?_) | (with_reducible refine AW.skip ?_) | (with_reducible refine AW.ret ?_) | (with_reducible refine AW.exit ?_) | (with_reducible refine AW.reg hT ?_) | ((with_reducible refine AW.cond_true ?_ ?_); · rfl) | ((with_reducible refine AW.cond_false ?_ ?_); · rfl) | simp (maxSteps := 3000000) (maxDischargeDepth := 12) only [push_cast,appendX,reduceIte,reduceCtorEq,Nat.reduceSub,Nat.reduceAdd,Nat.reduceMul,Nat.reduceLT,Nat.reduceLeDiff,Nat.reduceEqDiff,Nat.reduceBEq,Int.reduceToNat,Int.reduceLT,Int.reduceLE,Int.reduceEq,Int.reduceNeg,Try.results20,gtA,Heap.lt gtA,xtB.2,xtB.ltT,xtB.leT,dcf])
    exact ⟨by simp [mayA, h1], xtB⟩
end Go.Proofs.Ytkcccomdamdocaa.Cm
