/- Which adverts may be, by the document. -/
import Derived.Test.YtkcccomdamdocaaTedb0
namespace Go.Proofs.Ytkcccomdamdocaa.Cm
open Go.RowKit
set_option linter.unusedVariables false
set_option linter.unusedSimpArgs false
set_option maxRecDepth 20000
set_option maxHeartbeats 8000000
def rmI (x : Ad) (σ0 : Heap) (m : Nat) (ts : List DV) (σ : Heap) : Prop := ∃ (i : Nat) (z : Int), m = 9 - i ∧ i ≤ 8 ∧ z = i ∧ (∀ j, j < i → ¬ nth x j < nth x (j + 1)) ∧ Ext [] σ0 σ ∧ σ.get σ0.n = some ⟨[eA x], 42, true⟩ ∧ TellsL ts (.any :: .ptr σ0.n 0 0 1 :: .any :: .any :: .sc (.int .u64 (nth x i)) :: .sc (.int .i64 z) :: .any :: .any :: .any :: .any :: .any :: .any :: .any :: .any :: .any :: .any :: .any :: .any :: .any :: .any :: .any :: .any :: .any :: .any :: .any :: .any :: .any :: .any :: .any :: .any :: .any :: .any :: .any :: .any :: .any :: .any :: .any :: .any :: .any :: .any :: .any :: .any :: .any :: .any :: .any :: .any :: .any :: .any :: .any :: .any :: .any :: .any :: .any :: .any :: .any :: .any :: .any :: .any :: .any :: .any :: .any :: .any :: .any :: .any :: .any :: .any :: .any :: .any :: .any :: [])
theorem rmay_ok (σ : Heap) (x : Ad) : ACalls Try.prog 21 [.agg (eA x)] σ (fun y σ' => y = .sc (.bool (decide (mayA x))) ∧ Ext [] σ σ') := by
  simp only [eA_eq]
  refine ACalls.code hT Try.func21 rfl ?_
  simp only [Try.ntmps21, List.length_cons, List.length_nil, Nat.reduceSub, Nat.reduceAdd, List.replicate, List.cons_append, List.nil_append]
  by_cases hA0 : x.f0.f0 < 0
  · have dcA0 : decide (x.f0.f0 < 0) = true := by simpa using hA0
    repeat (first | (with_reducible refine AW.seq ?_) | (with_reducible refine AW.block ?_) | (with_reducible refine AW.skip ?_) | (with_reducible refine AW.ret ?_) | (with_reducible refine AW.exit ?_) | (with_reducible refine AW.reg hT ?_) | ((with_reducible refine AW.cond_true ?_ ?_); · rfl) | ((with_reducible refine AW.cond_false ?_ ?_); · rfl) | simp (maxSteps := 3000000) (maxDischargeDepth := 12) only [push_cast,appendX,reduceIte,reduceCtorEq,Nat.reduceSub,Nat.reduceAdd,Nat.reduceMul,Nat.reduceLT,Nat.reduceLeDiff,Nat.reduceEqDiff,Nat.reduceBEq,Int.reduceToNat,Int.reduceLT,Int.reduceLE,Int.reduceEq,Int.reduceNeg,Try.results21,dcA0])
    have hno : ¬ mayA x := fun h => by
      obtain ⟨h1, h2, h3, _⟩ := h
      unfold lkOk at h1
      omega
    exact ⟨by simp [hno], by repeat (first | exact Ext.refl _ _ | assumption | refine Ext.push ?_ _ | ((refine Ext.set ?_ ?_ _); rotate_left; · (simp (maxSteps := 3000000) (maxDischargeDepth := 12) only [push_cast, appendX, Nat.reduceAdd, Nat.reduceEqDiff, Nat.reduceLT, Nat.reduceLeDiff, reduceIte, reduceCtorEq, dcA0])) | ((refine Ext.then1 (by assumption) ?_ ?_); rotate_left; · (intro p hp _; first | assumption | exact List.mem_cons_of_mem _ hp | (cases hp; done) | (simp at hp; subst hp; simp))))⟩
  · have dcA0 : decide (x.f0.f0 < 0) = false := by simpa using hA0
    by_cases hA1 : 16 ≤ x.f0.f0
    · have dcA1 : decide (16 ≤ x.f0.f0) = true := by simpa using hA1
      repeat (first | (with_reducible refine AW.seq ?_) | (with_reducible refine AW.block ?_) | (with_reducible refine AW.skip ?_) | (with_reducible refine AW.ret ?_) | (with_reducible refine AW.exit ?_) | (with_reducible refine AW.reg hT ?_) | ((with_reducible refine AW.cond_true ?_ ?_); · rfl) | ((with_reducible refine AW.cond_false ?_ ?_); · rfl) | simp (maxSteps := 3000000) (maxDischargeDepth := 12) only [push_cast,appendX,reduceIte,reduceCtorEq,Nat.reduceSub,Nat.reduceAdd,Nat.reduceMul,Nat.reduceLT,Nat.reduceLeDiff,Nat.reduceEqDiff,Nat.reduceBEq,Int.reduceToNat,Int.reduceLT,Int.reduceLE,Int.reduceEq,Int.reduceNeg,Try.results21,dcA0,dcA1])
      have hno : ¬ mayA x := fun h => by
        obtain ⟨h1, h2, h3, _⟩ := h
        unfold lkOk at h1
        omega
      exact ⟨by simp [hno], by repeat (first | exact Ext.refl _ _ | assumption | refine Ext.push ?_ _ | ((refine Ext.set ?_ ?_ _); rotate_left; · (simp (maxSteps := 3000000) (maxDischargeDepth := 12) only [push_cast, appendX, Nat.reduceAdd, Nat.reduceEqDiff, Nat.reduceLT, Nat.reduceLeDiff, reduceIte, reduceCtorEq, dcA0, dcA1])) | ((refine Ext.then1 (by assumption) ?_ ?_); rotate_left; · (intro p hp _; first | assumption | exact List.mem_cons_of_mem _ hp | (cases hp; done) | (simp at hp; subst hp; simp))))⟩
    · have dcA1 : decide (16 ≤ x.f0.f0) = false := by simpa using hA1
      by_cases hA2 : x.f0.f1 < 0
      · have dcA2 : decide (x.f0.f1 < 0) = true := by simpa using hA2
        repeat (first | (with_reducible refine AW.seq ?_) | (with_reducible refine AW.block ?_) | (with_reducible refine AW.skip ?_) | (with_reducible refine AW.ret ?_) | (with_reducible refine AW.exit ?_) | (with_reducible refine AW.reg hT ?_) | ((with_reducible refine AW.cond_true ?_ ?_); · rfl) | ((with_reducible refine AW.cond_false ?_ ?_); · rfl) | simp (maxSteps := 3000000) (maxDischargeDepth := 12) only [push_cast,appendX,reduceIte,reduceCtorEq,Nat.reduceSub,Nat.reduceAdd,Nat.reduceMul,Nat.reduceLT,Nat.reduceLeDiff,Nat.reduceEqDiff,Nat.reduceBEq,Int.reduceToNat,Int.reduceLT,Int.reduceLE,Int.reduceEq,Int.reduceNeg,Try.results21,dcA0,dcA1,dcA2])
        have hno : ¬ mayA x := fun h => by
          obtain ⟨h1, h2, h3, _⟩ := h
          unfold lkOk at h1
          omega
        exact ⟨by simp [hno], by repeat (first | exact Ext.refl _ _ | assumption | refine Ext.push ?_ _ | ((refine Ext.set ?_ ?_ _); rotate_left; · (simp (maxSteps := 3000000) (maxDischargeDepth := 12) only [push_cast, appendX, Nat.reduceAdd, Nat.reduceEqDiff, Nat.reduceLT, Nat.reduceLeDiff, reduceIte, reduceCtorEq, dcA0, dcA1, dcA2])) | ((refine Ext.then1 (by assumption) ?_ ?_); rotate_left; · (intro p hp _; first | assumption | exact List.mem_cons_of_mem _ hp | (cases hp; done) | (simp at hp; subst hp; simp))))⟩
      · have dcA2 : decide (x.f0.f1 < 0) = false := by simpa using hA2
        by_cases hA3 : 16 ≤ x.f0.f1
        · have dcA3 : decide (16 ≤ x.f0.f1) = true := by simpa using hA3
          repeat (first | (with_reducible refine AW.seq ?_) | (with_reducible refine AW.block ?_) | (with_reducible refine AW.skip ?_) | (with_reducible refine AW.ret ?_) | (with_reducible refine AW.exit ?_) | (with_reducible refine AW.reg hT ?_) | ((with_reducible refine AW.cond_true ?_ ?_); · rfl) | ((with_reducible refine AW.cond_false ?_ ?_); · rfl) | simp (maxSteps := 3000000) (maxDischargeDepth := 12) only [push_cast,appendX,reduceIte,reduceCtorEq,Nat.reduceSub,Nat.reduceAdd,Nat.reduceMul,Nat.reduceLT,Nat.reduceLeDiff,Nat.reduceEqDiff,Nat.reduceBEq,Int.reduceToNat,Int.reduceLT,Int.reduceLE,Int.reduceEq,Int.reduceNeg,Try.results21,dcA0,dcA1,dcA2,dcA3])
          have hno : ¬ mayA x := fun h => by
            obtain ⟨h1, h2, h3, _⟩ := h
            unfold lkOk at h1
            omega
          exact ⟨by simp [hno], by repeat (first | exact Ext.refl _ _ | assumption | refine Ext.push ?_ _ | ((refine Ext.set ?_ ?_ _); rotate_left; · (simp (maxSteps := 3000000) (maxDischargeDepth := 12) only [push_cast, appendX, Nat.reduceAdd, Nat.reduceEqDiff, Nat.reduceLT, Nat.reduceLeDiff, reduceIte, reduceCtorEq, dcA0, dcA1, dcA2, dcA3])) | ((refine Ext.then1 (by assumption) ?_ ?_); rotate_left; · (intro p hp _; first | assumption | exact List.mem_cons_of_mem _ hp | (cases hp; done) | (simp at hp; subst hp; simp))))⟩
        · have dcA3 : decide (16 ≤ x.f0.f1) = false := by simpa using hA3
          by_cases hA4 : x.f0.f0 = x.f0.f1
          · have dcA4 : (x.f0.f0 == x.f0.f1) = true := by simpa using hA4
            repeat (first | (with_reducible refine AW.seq ?_) | (with_reducible refine AW.block ?_) | (with_reducible refine AW.skip ?_) | (with_reducible refine AW.ret ?_) | (with_reducible refine AW.exit ?_) | (with_reducible refine AW.reg hT ?_) | ((with_reducible refine AW.cond_true ?_ ?_); · rfl) | ((with_reducible refine AW.cond_false ?_ ?_); · rfl) | simp (maxSteps := 3000000) (maxDischargeDepth := 12) only [push_cast,appendX,reduceIte,reduceCtorEq,Nat.reduceSub,Nat.reduceAdd,Nat.reduceMul,Nat.reduceLT,Nat.reduceLeDiff,Nat.reduceEqDiff,Nat.reduceBEq,Int.reduceToNat,Int.reduceLT,Int.reduceLE,Int.reduceEq,Int.reduceNeg,Try.results21,dcA0,dcA1,dcA2,dcA3,dcA4])
            have hno : ¬ mayA x := fun h => by
              obtain ⟨h1, h2, h3, _⟩ := h
              unfold lkOk at h1
              omega
            exact ⟨by simp [hno], by repeat (first | exact Ext.refl _ _ | assumption | refine Ext.push ?_ _ | ((refine Ext.set ?_ ?_ _); rotate_left; · (simp (maxSteps := 3000000) (maxDischargeDepth := 12) only [push_cast, appendX, Nat.reduceAdd, Nat.reduceEqDiff, Nat.reduceLT, Nat.reduceLeDiff, reduceIte, reduceCtorEq, dcA0, dcA1, dcA2, dcA3, dcA4])) | ((refine Ext.then1 (by assumption) ?_ ?_); rotate_left; · (intro p hp _; first | assumption | exact List.mem_cons_of_mem _ hp | (cases hp; done) | (simp at hp; subst hp; simp))))⟩
          · have dcA4 : (x.f0.f0 == x.f0.f1) = false := by simpa using hA4
            by_cases hA5 : x.f0.f3 < 1
            · have dcA5 : decide (x.f0.f3 < 1) = true := by simpa using hA5
              repeat (first | (with_reducible refine AW.seq ?_) | (with_reducible refine AW.block ?_) | (with_reducible refine AW.skip ?_) | (with_reducible refine AW.ret ?_) | (with_reducible refine AW.exit ?_) | (with_reducible refine AW.reg hT ?_) | ((with_reducible refine AW.cond_true ?_ ?_); · rfl) | ((with_reducible refine AW.cond_false ?_ ?_); · rfl) | simp (maxSteps := 3000000) (maxDischargeDepth := 12) only [push_cast,appendX,reduceIte,reduceCtorEq,Nat.reduceSub,Nat.reduceAdd,Nat.reduceMul,Nat.reduceLT,Nat.reduceLeDiff,Nat.reduceEqDiff,Nat.reduceBEq,Int.reduceToNat,Int.reduceLT,Int.reduceLE,Int.reduceEq,Int.reduceNeg,Try.results21,dcA0,dcA1,dcA2,dcA3,dcA4,dcA5])
              have hno : ¬ mayA x := fun h => by
                obtain ⟨h1, h2, h3, _⟩ := h
                unfold lkOk at h1
                omega
              exact ⟨by simp [hno], by repeat (first | exact Ext.refl _ _ | assumption | refine Ext.push ?_ _ | ((refine Ext.set ?_ ?_ _); rotate_left; · (simp (maxSteps := 3000000) (maxDischargeDepth := 12) only [push_cast, appendX, Nat.reduceAdd, Nat.reduceEqDiff, Nat.reduceLT, Nat.reduceLeDiff, reduceIte, reduceCtorEq, dcA0, dcA1, dcA2, dcA3, dcA4, dcA5])) | ((refine Ext.then1 (by assumption) ?_ ?_); rotate_left; · (intro p hp _; first | assumption | exact List.mem_cons_of_mem _ hp | (cases hp; done) | (simp at hp; subst hp; simp))))⟩
            · have dcA5 : decide (x.f0.f3 < 1) = false := by simpa using hA5
              by_cases hA6 : 65535 < x.f0.f3
              · have dcA6 : decide (65535 < x.f0.f3) = true := by simpa using hA6
                repeat (first | (with_reducible refine AW.seq ?_) | (with_reducible refine AW.block ?_) | (with_reducible refine AW.skip ?_) | (with_reducible refine AW.ret ?_) | (with_reducible refine AW.exit ?_) | (with_reducible refine AW.reg hT ?_) | ((with_reducible refine AW.cond_true ?_ ?_); · rfl) | ((with_reducible refine AW.cond_false ?_ ?_); · rfl) | simp (maxSteps := 3000000) (maxDischargeDepth := 12) only [push_cast,appendX,reduceIte,reduceCtorEq,Nat.reduceSub,Nat.reduceAdd,Nat.reduceMul,Nat.reduceLT,Nat.reduceLeDiff,Nat.reduceEqDiff,Nat.reduceBEq,Int.reduceToNat,Int.reduceLT,Int.reduceLE,Int.reduceEq,Int.reduceNeg,Try.results21,dcA0,dcA1,dcA2,dcA3,dcA4,dcA5,dcA6])
                have hno : ¬ mayA x := fun h => by
                  obtain ⟨h1, h2, h3, _⟩ := h
                  unfold lkOk at h1
                  omega
                exact ⟨by simp [hno], by repeat (first | exact Ext.refl _ _ | assumption | refine Ext.push ?_ _ | ((refine Ext.set ?_ ?_ _); rotate_left; · (simp (maxSteps := 3000000) (maxDischargeDepth := 12) only [push_cast, appendX, Nat.reduceAdd, Nat.reduceEqDiff, Nat.reduceLT, Nat.reduceLeDiff, reduceIte, reduceCtorEq, dcA0, dcA1, dcA2, dcA3, dcA4, dcA5, dcA6])) | ((refine Ext.then1 (by assumption) ?_ ?_); rotate_left; · (intro p hp _; first | assumption | exact List.mem_cons_of_mem _ hp | (cases hp; done) | (simp at hp; subst hp; simp))))⟩
              · have dcA6 : decide (65535 < x.f0.f3) = false := by simpa using hA6
                by_cases hA7 : x.f1 < 0
                · have dcA7 : decide (x.f1 < 0) = true := by simpa using hA7
                  repeat (first | (with_reducible refine AW.seq ?_) | (with_reducible refine AW.block ?_) | (with_reducible refine AW.skip ?_) | (with_reducible refine AW.ret ?_) | (with_reducible refine AW.exit ?_) | (with_reducible refine AW.reg hT ?_) | ((with_reducible refine AW.cond_true ?_ ?_); · rfl) | ((with_reducible refine AW.cond_false ?_ ?_); · rfl) | simp (maxSteps := 3000000) (maxDischargeDepth := 12) only [push_cast,appendX,reduceIte,reduceCtorEq,Nat.reduceSub,Nat.reduceAdd,Nat.reduceMul,Nat.reduceLT,Nat.reduceLeDiff,Nat.reduceEqDiff,Nat.reduceBEq,Int.reduceToNat,Int.reduceLT,Int.reduceLE,Int.reduceEq,Int.reduceNeg,Try.results21,dcA0,dcA1,dcA2,dcA3,dcA4,dcA5,dcA6,dcA7])
                  have hno : ¬ mayA x := fun h => by
                    obtain ⟨h1, h2, h3, _⟩ := h
                    unfold lkOk at h1
                    omega
                  exact ⟨by simp [hno], by repeat (first | exact Ext.refl _ _ | assumption | refine Ext.push ?_ _ | ((refine Ext.set ?_ ?_ _); rotate_left; · (simp (maxSteps := 3000000) (maxDischargeDepth := 12) only [push_cast, appendX, Nat.reduceAdd, Nat.reduceEqDiff, Nat.reduceLT, Nat.reduceLeDiff, reduceIte, reduceCtorEq, dcA0, dcA1, dcA2, dcA3, dcA4, dcA5, dcA6, dcA7])) | ((refine Ext.then1 (by assumption) ?_ ?_); rotate_left; · (intro p hp _; first | assumption | exact List.mem_cons_of_mem _ hp | (cases hp; done) | (simp at hp; subst hp; simp))))⟩
                · have dcA7 : decide (x.f1 < 0) = false := by simpa using hA7
                  by_cases hA8 : 4294967295 < x.f1
                  · have dcA8 : decide (4294967295 < x.f1) = true := by simpa using hA8
                    repeat (first | (with_reducible refine AW.seq ?_) | (with_reducible refine AW.block ?_) | (with_reducible refine AW.skip ?_) | (with_reducible refine AW.ret ?_) | (with_reducible refine AW.exit ?_) | (with_reducible refine AW.reg hT ?_) | ((with_reducible refine AW.cond_true ?_ ?_); · rfl) | ((with_reducible refine AW.cond_false ?_ ?_); · rfl) | simp (maxSteps := 3000000) (maxDischargeDepth := 12) only [push_cast,appendX,reduceIte,reduceCtorEq,Nat.reduceSub,Nat.reduceAdd,Nat.reduceMul,Nat.reduceLT,Nat.reduceLeDiff,Nat.reduceEqDiff,Nat.reduceBEq,Int.reduceToNat,Int.reduceLT,Int.reduceLE,Int.reduceEq,Int.reduceNeg,Try.results21,dcA0,dcA1,dcA2,dcA3,dcA4,dcA5,dcA6,dcA7,dcA8])
                    have hno : ¬ mayA x := fun h => by
                      obtain ⟨h1, h2, h3, _⟩ := h
                      unfold lkOk at h1
                      omega
                    exact ⟨by simp [hno], by repeat (first | exact Ext.refl _ _ | assumption | refine Ext.push ?_ _ | ((refine Ext.set ?_ ?_ _); rotate_left; · (simp (maxSteps := 3000000) (maxDischargeDepth := 12) only [push_cast, appendX, Nat.reduceAdd, Nat.reduceEqDiff, Nat.reduceLT, Nat.reduceLeDiff, reduceIte, reduceCtorEq, dcA0, dcA1, dcA2, dcA3, dcA4, dcA5, dcA6, dcA7, dcA8])) | ((refine Ext.then1 (by assumption) ?_ ?_); rotate_left; · (intro p hp _; first | assumption | exact List.mem_cons_of_mem _ hp | (cases hp; done) | (simp at hp; subst hp; simp))))⟩
                  · have dcA8 : decide (4294967295 < x.f1) = false := by simpa using hA8
                    have dcu8 : ((1 : Int) + 1 + 1 + 1 + 1 + 1 + 1 + 1) = 8 := by decide
                    repeat (first | (with_reducible refine AW.seq ?_) | (with_reducible refine AW.block ?_) | (with_reducible refine AW.skip ?_) | (with_reducible refine AW.ret ?_) | (with_reducible refine AW.exit ?_) | (with_reducible refine AW.reg hT ?_) | ((with_reducible refine AW.cond_true ?_ ?_); · rfl) | ((with_reducible refine AW.cond_false ?_ ?_); · rfl) | simp (maxSteps := 3000000) (maxDischargeDepth := 12) only [push_cast,appendX,reduceIte,reduceCtorEq,Nat.reduceSub,Nat.reduceAdd,Nat.reduceMul,Nat.reduceLT,Nat.reduceLeDiff,Nat.reduceEqDiff,Nat.reduceBEq,Int.reduceToNat,Int.reduceLT,Int.reduceLE,Int.reduceEq,Int.reduceNeg,Try.results21,dcA0,dcA1,dcA2,dcA3,dcA4,dcA5,dcA6,dcA7,dcA8,dcu8])
                    refine AW.loop (rmI x σ) (m := 9) ⟨0, 0, rfl, by omega, rfl, by simp, by repeat (first | exact Ext.refl _ _ | assumption | refine Ext.push ?_ _ | ((refine Ext.set ?_ ?_ _); rotate_left; · (simp (maxSteps := 3000000) (maxDischargeDepth := 12) only [push_cast, appendX, Nat.reduceAdd, Nat.reduceEqDiff, Nat.reduceLT, Nat.reduceLeDiff, reduceIte, reduceCtorEq, dcA0, dcA1, dcA2, dcA3, dcA4, dcA5, dcA6, dcA7, dcA8, dcu8])) | ((refine Ext.then1 (by assumption) ?_ ?_); rotate_left; · (intro p hp _; first | assumption | exact List.mem_cons_of_mem _ hp | (cases hp; done) | (simp at hp; subst hp; simp)))), by simp (maxSteps := 3000000) (maxDischargeDepth := 12) only [push_cast, appendX, Nat.reduceAdd, Nat.reduceEqDiff, Nat.reduceLT, Nat.reduceLeDiff, reduceIte, reduceCtorEq, eA_eq, dcA0, dcA1, dcA2, dcA3, dcA4, dcA5, dcA6, dcA7, dcA8, dcu8], by (simp only [push_cast, TellsL, tells_any, tells_refl, nth])⟩ ?_
                    rintro m ts σ4 ⟨i, z, rfl, hi, hz, hdn, xt4, gt4, hts⟩
                    refine AW.told hts ?_
                    clear hts
                    rw [eA_eq] at gt4
                    by_cases h8 : i = 8
                    · subst h8
                      have dcz : decide (z < 8) = false := by simp; omega
                      repeat (first | (with_reducible refine AW.seq ?_) | (with_reducible refine AW.block ?_) | (with_reducible refine AW.skip ?_) | (with_reducible refine AW.ret ?_) | (with_reducible refine AW.exit ?_) | (with_reducible refine AW.reg hT ?_) | ((with_reducible refine AW.cond_true ?_ ?_); · rfl) | ((with_reducible refine AW.cond_false ?_ ?_); · rfl) | simp (maxSteps := 3000000) (maxDischargeDepth := 12) only [push_cast,appendX,reduceIte,reduceCtorEq,Nat.reduceSub,Nat.reduceAdd,Nat.reduceMul,Nat.reduceLT,Nat.reduceLeDiff,Nat.reduceEqDiff,Nat.reduceBEq,Int.reduceToNat,Int.reduceLT,Int.reduceLE,Int.reduceEq,Int.reduceNeg,Try.results21,dcA0,dcA1,dcA2,dcA3,dcA4,dcA5,dcA6,dcA7,dcA8,dcu8,xt4.2,xt4.ltT,xt4.leT,gt4,Heap.lt gt4,dcz])
                      have : mayA x := ⟨by unfold lkOk; omega, by omega, by omega, hdn⟩
                      exact ⟨by simp [this], xt4⟩
                    have dcz : decide (z < 8) = true := by simp; omega
                    have dcz1 : (z < 8) = True := by simp; omega
                    have dcz0 : (0 ≤ z) = True := by simp; omega
                    have dczt : z.toNat = i := by omega
                    have dcw : IntKind.i64.wrap (z + 1) = z + 1 := wrap_i64 (by omega) (by omega)
                    have hdn' : ¬ nth x i < nth x (i + 1) → ∀ j, j < i + 1 → ¬ nth x j < nth x (j + 1) := fun h j hj => by
                      by_cases hji : j = i
                      · subst hji; exact h
                      · exact hdn j (by omega)
                    have hnm : nth x i < nth x (i + 1) → ¬ mayA x := fun h hm => hm.2.2.2 i (by omega) h
                    by_cases hg : nth x i < nth x (i + 1)
                    · have dcg : decide (nth x i < nth x (i + 1)) = true := by simpa using hg
                      have hn := hnm hg
                      clear hnm hdn hdn' hg
                      obtain rfl | rfl | rfl | rfl | rfl | rfl | rfl | rfl : i = 0 ∨ i = 1 ∨ i = 2 ∨ i = 3 ∨ i = 4 ∨ i = 5 ∨ i = 6 ∨ i = 7 := by omega
                      all_goals
                        simp only [nth] at dcg
                        repeat (first | (with_reducible refine AW.seq ?_) | (with_reducible refine AW.block ?_) | (with_reducible refine AW.skip ?_) | (with_reducible refine AW.ret ?_) | (with_reducible refine AW.exit ?_) | (with_reducible refine AW.reg hT ?_) | ((with_reducible refine AW.cond_true ?_ ?_); · rfl) | ((with_reducible refine AW.cond_false ?_ ?_); · rfl) | simp (maxSteps := 3000000) (maxDischargeDepth := 12) only [push_cast,appendX,reduceIte,reduceCtorEq,Nat.reduceSub,Nat.reduceAdd,Nat.reduceMul,Nat.reduceLT,Nat.reduceLeDiff,Nat.reduceEqDiff,Nat.reduceBEq,Int.reduceToNat,Int.reduceLT,Int.reduceLE,Int.reduceEq,Int.reduceNeg,Try.results21,nth,dcA0,dcA1,dcA2,dcA3,dcA4,dcA5,dcA6,dcA7,dcA8,dcu8,xt4.2,xt4.ltT,xt4.leT,gt4,Heap.lt gt4,dcz,dcz1,dcz0,dczt,dcw,dcg])
                        exact ⟨by simp [hn], xt4⟩
                    · have dcg : decide (nth x i < nth x (i + 1)) = false := by simpa using hg
                      have hd2 := hdn' hg
                      clear hnm hdn hdn' hg
                      obtain rfl | rfl | rfl | rfl | rfl | rfl | rfl | rfl : i = 0 ∨ i = 1 ∨ i = 2 ∨ i = 3 ∨ i = 4 ∨ i = 5 ∨ i = 6 ∨ i = 7 := by omega
                      all_goals
                        simp only [nth] at dcg
                        repeat (first | (with_reducible refine AW.seq ?_) | (with_reducible refine AW.block ?_) | (with_reducible refine AW.skip ?_) | (with_reducible refine AW.ret ?_) | (with_reducible refine AW.exit ?_) | (with_reducible refine AW.reg hT ?_) | ((with_reducible refine AW.cond_true ?_ ?_); · rfl) | ((with_reducible refine AW.cond_false ?_ ?_); · rfl) | simp (maxSteps := 3000000) (maxDischargeDepth := 12) only [push_cast,appendX,reduceIte,reduceCtorEq,Nat.reduceSub,Nat.reduceAdd,Nat.reduceMul,Nat.reduceLT,Nat.reduceLeDiff,Nat.reduceEqDiff,Nat.reduceBEq,Int.reduceToNat,Int.reduceLT,Int.reduceLE,Int.reduceEq,Int.reduceNeg,Try.results21,nth,dcA0,dcA1,dcA2,dcA3,dcA4,dcA5,dcA6,dcA7,dcA8,dcu8,xt4.2,xt4.ltT,xt4.leT,gt4,Heap.lt gt4,dcz,dcz1,dcz0,dczt,dcw,dcg])
                        simp only [Nat.reduceAdd] at hd2
                        exact ⟨_, by decide, _, z + 1, rfl, by decide, by omega, hd2, xt4, by rw [eA_eq]; exact gt4, by (simp only [push_cast, TellsL, tells_any, tells_refl, nth])⟩
end Go.Proofs.Ytkcccomdamdocaa.Cm
