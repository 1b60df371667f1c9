/- TedbNobody. -/
import Derived.Test.YtkcccomdamdocaaTedbM1
namespace Go.Proofs.Ytkcccomdamdocaa.Cm
open Go.RowKit
set_option linter.unusedVariables false
set_option linter.unusedSimpArgs false
set_option maxRecDepth 20000
set_option maxHeartbeats 8000000
def ad7 : Ad := ⟨lk0, 7, false, ⟨0, 0, 0, 0, 0, 0, 0, 0⟩⟩
theorem wad7 : wA ad7 := ⟨wlk0, rfl, trivial, rfl, rfl, rfl, rfl, rfl, rfl, rfl, rfl⟩
theorem app7 : appA [adv0 lk0] ad7 = ([ad7], true, 0) := by kernel_rfl
def oB : AObj := ⟨[[.sc (.bool false), .sc (.slice none 0 0)]], 57, true⟩
def nbI (a : Ad) (p0 p1 t1 : Nat) (m : Nat) (ts : List DV) (σ : Heap) : Prop := ∃ (k : Nat) (z : Int), m = 3 - k ∧ k ≤ 2 ∧ z = k ∧ σ.get p0 = some ⟨[eA a], 42, true⟩ ∧ σ.get p1 = some oB ∧ σ.get t1 = some ⟨[[.sc (.pointer none)], [.ptr p1 0 0 1]], 27, true⟩ ∧ TellsL ts (.any :: .ptr p0 0 0 1 :: .any :: .any :: .any :: .any :: .any :: .any :: .any :: .any :: .any :: .any :: .any :: .any :: .any :: .sl t1 0 2 2 :: .sc (.int .i64 2) :: .sc (.int .i64 z) :: .any :: .any :: .any :: .any :: .any :: .any :: .any :: .any :: .any :: .any :: .any :: .any :: .any :: .any :: .any :: .any :: .any :: .any :: .any :: .any :: .any :: .any :: .any :: .any :: .any :: .any :: .any :: .any :: .any :: .any :: .any :: .any :: .any :: .any :: .any :: .any :: .any :: .any :: .any :: .any :: .any :: .any :: .any :: .any :: .any :: .any :: .any :: .any :: .any :: .any :: .any :: .any :: .any :: .any :: .any :: .any :: .any :: .any :: .any :: .any :: .any :: .any :: .any :: .any :: .any :: .any :: .any :: .any :: .any :: .any :: .any :: .any :: .any :: .any :: [])
theorem nobody_ok (a : Ad) (ha : wA a) : ACalls Try.prog 7 [.agg (eA a)] ⟨[]⟩ (fun x _ => x = .sc (.bool true)) := by
  generalize hσ0 : (⟨[]⟩ : Heap) = σ
  simp only [eA_eq a]
  refine ACalls.code hT Try.func7 rfl ?_
  simp only [Try.ntmps7, List.length_cons, List.length_nil, Nat.reduceSub, Nat.reduceAdd, List.replicate, List.cons_append, List.nil_append]
  repeat (first | (with_reducible refine AW.seq ?_) | (with_reducible refine AW.block ?_) | (with_reducible refine AW.skip ?_) | (with_reducible refine AW.ret ?_) | (with_reducible refine AW.exit ?_) | (with_reducible refine AW.reg hT ?_) | ((with_reducible refine AW.cond_true ?_ ?_); · rfl) | ((with_reducible refine AW.cond_false ?_ ?_); · rfl) | simp (maxSteps := 3000000) (maxDischargeDepth := 12) only [push_cast, appendX, reduceIte, reduceCtorEq, Nat.reduceSub, Nat.reduceAdd, Nat.reduceMul, Nat.reduceLT, Nat.reduceLeDiff, Nat.reduceEqDiff, Nat.reduceBEq, Int.reduceToNat, Int.reduceLT, Int.reduceLE, Int.reduceEq, Int.reduceNeg, Try.results7])
  refine AOpsL.call (first := []) (cap := []) hT rfl rfl rfl fn10 rfl (ACalls.mono (alive_ok _) ?_)
  rintro y σ1 ⟨rfl, xt1⟩
  have gt1 : σ1.get σ.n = some ⟨[eA a], 42, true⟩ := by simp (maxSteps := 3000000) (maxDischargeDepth := 12) only [push_cast, appendX, Nat.reduceAdd, Nat.reduceEqDiff, Nat.reduceLT, Nat.reduceLeDiff, reduceIte, reduceCtorEq, eA_eq, xt1.2, xt1.ltT, xt1.leT]
  clear xt1
  generalize σ.n = p0 at gt1 ⊢
  repeat ((fail_if_success (with_reducible refine AW.at1 (id := 3) ?_)); (fail_if_success (with_reducible refine AW.at2 (id := 3) ?_)); first | (with_reducible refine AW.seq ?_) | (with_reducible refine AW.block ?_) | (with_reducible refine AW.skip ?_) | (with_reducible refine AW.ret ?_) | (with_reducible refine AW.exit ?_) | (with_reducible refine AW.reg hT ?_) | ((with_reducible refine AW.cond_true ?_ ?_); · rfl) | ((with_reducible refine AW.cond_false ?_ ?_); · rfl) | simp (maxSteps := 3000000) (maxDischargeDepth := 12) only [push_cast, appendX, reduceIte, reduceCtorEq, Nat.reduceSub, Nat.reduceAdd, Nat.reduceMul, Nat.reduceLT, Nat.reduceLeDiff, Nat.reduceEqDiff, Nat.reduceBEq, Int.reduceToNat, Int.reduceLT, Int.reduceLE, Int.reduceEq, Int.reduceNeg, Try.results7, gt1, Heap.lt gt1])
  refine AW.seqK (fun ts _ => TellsL ts (.any :: .ptr p0 0 0 1 :: .any :: .any :: .any :: .any :: .any :: .any :: .any :: .any :: .any :: .any :: .any :: .any :: .any :: .any :: .any :: .any :: .any :: .any :: .any :: .any :: .any :: .any :: .any :: .any :: .any :: .any :: .any :: .any :: .any :: .any :: .any :: .any :: .any :: .any :: .any :: .any :: .any :: .any :: .any :: .any :: .any :: .any :: .any :: .any :: .any :: .any :: .any :: .any :: .any :: .any :: .any :: .any :: .any :: .any :: .any :: .any :: .any :: .any :: .any :: .any :: .any :: .any :: .any :: .any :: .any :: .any :: .any :: .any :: .any :: .any :: .any :: .any :: .any :: .any :: .any :: .any :: .any :: .any :: .any :: .any :: .any :: .any :: .any :: .any :: .any :: .any :: .any :: .any :: .any :: .any :: [])) ?_ ?_
  · have hc2 : (1 : Int) + 1 = 2 := by decide
    repeat (first | (with_reducible refine AW.seq ?_) | (with_reducible refine AW.block ?_) | (with_reducible refine AW.skip ?_) | (with_reducible refine AW.ret ?_) | (with_reducible refine AW.exit ?_) | (with_reducible refine AW.reg hT ?_) | ((with_reducible refine AW.cond_true ?_ ?_); · rfl) | ((with_reducible refine AW.cond_false ?_ ?_); · rfl) | simp (maxSteps := 3000000) (maxDischargeDepth := 12) only [push_cast, appendX, reduceIte, reduceCtorEq, Nat.reduceSub, Nat.reduceAdd, Nat.reduceMul, Nat.reduceLT, Nat.reduceLeDiff, Nat.reduceEqDiff, Nat.reduceBEq, Int.reduceToNat, Int.reduceLT, Int.reduceLE, Int.reduceEq, Int.reduceNeg, Try.results7, gt1, Heap.lt gt1])
    refine AW.loop (nbI a p0 σ1.n (σ1.n + 1)) (m := 3) ⟨0, 0, rfl, by omega, rfl, by simp (maxSteps := 3000000) (maxDischargeDepth := 12) only [push_cast, appendX, Nat.reduceAdd, Nat.reduceEqDiff, Nat.reduceLT, Nat.reduceLeDiff, reduceIte, reduceCtorEq, gt1, Heap.lt gt1], by simp (maxSteps := 3000000) (maxDischargeDepth := 12) only [push_cast, appendX, Nat.reduceAdd, Nat.reduceEqDiff, Nat.reduceLT, Nat.reduceLeDiff, reduceIte, reduceCtorEq, oB, gt1, Heap.lt gt1], by simp (maxSteps := 3000000) (maxDischargeDepth := 12) only [push_cast, appendX, Nat.reduceAdd, Nat.reduceEqDiff, Nat.reduceLT, Nat.reduceLeDiff, reduceIte, reduceCtorEq, gt1, Heap.lt gt1], by (simp only [push_cast, TellsL, tells_any, tells_refl, hc2])⟩ ?_
    generalize σ1.n + 1 = t1
    generalize σ1.n = p1
    clear gt1
    rintro m ts σ3 ⟨k, z, rfl, hk, hz, gt1, gt2, gt3, hts⟩
    refine AW.told hts ?_
    clear hts
    unfold oB at gt2
    rw [eA_eq] at gt1
    by_cases h2 : k = 2
    · subst h2
      have dcz : decide (z < 2) = false := by simp; omega
      repeat (first | (with_reducible refine AW.seq ?_) | (with_reducible refine AW.block ?_) | (with_reducible refine AW.skip ?_) | (with_reducible refine AW.ret ?_) | (with_reducible refine AW.exit ?_) | (with_reducible refine AW.reg hT ?_) | ((with_reducible refine AW.cond_true ?_ ?_); · rfl) | ((with_reducible refine AW.cond_false ?_ ?_); · rfl) | simp (maxSteps := 3000000) (maxDischargeDepth := 12) only [push_cast, appendX, reduceIte, reduceCtorEq, Nat.reduceSub, Nat.reduceAdd, Nat.reduceMul, Nat.reduceLT, Nat.reduceLeDiff, Nat.reduceEqDiff, Nat.reduceBEq, Int.reduceToNat, Int.reduceLT, Int.reduceLE, Int.reduceEq, Int.reduceNeg, Try.results7, gt1, Heap.lt gt1, gt2, Heap.lt gt2, gt3, Heap.lt gt3, dcz])
      (simp only [push_cast, TellsL, tells_any, tells_refl])
    have dcz : decide (z < 2) = true := by simp; omega
    have dcz1 : (z < 2) = True := by simp; omega
    have dcu2 : ((1 : Int) + 1) = 2 := by decide
    have dcg1 : ([[DV.sc (.pointer none)], [DV.ptr p1 0 0 1]] : List (List DV))[1]? = some [.ptr p1 0 0 1] := rfl
    have dcz0 : (0 ≤ z) = True := by simp; omega
    have dczt : z.toNat = k := by omega
    have dcw : IntKind.i64.wrap (z + 1) = z + 1 := wrap_i64 (by omega) (by omega)
    obtain rfl | rfl : k = 0 ∨ k = 1 := by omega
    · repeat (first | (with_reducible refine AW.seq ?_) | (with_reducible refine AW.block ?_) | (with_reducible refine AW.skip ?_) | (with_reducible refine AW.ret ?_) | (with_reducible refine AW.exit ?_) | (with_reducible refine AW.reg hT ?_) | ((with_reducible refine AW.cond_true ?_ ?_); · rfl) | ((with_reducible refine AW.cond_false ?_ ?_); · rfl) | simp (maxSteps := 3000000) (maxDischargeDepth := 12) only [push_cast, appendX, reduceIte, reduceCtorEq, Nat.reduceSub, Nat.reduceAdd, Nat.reduceMul, Nat.reduceLT, Nat.reduceLeDiff, Nat.reduceEqDiff, Nat.reduceBEq, Int.reduceToNat, Int.reduceLT, Int.reduceLE, Int.reduceEq, Int.reduceNeg, Try.results7, gt1, Heap.lt gt1, gt2, Heap.lt gt2, gt3, Heap.lt gt3, dcz, dcz1, dcu2, dcg1, dcz0, dczt, dcw])
      refine AOpsL.call (first := []) (cap := []) hT rfl rfl rfl fn15 rfl (ACalls.mono (theirs_ok _ a) ?_)
      rintro y σ4 ⟨rfl, xt4⟩
      have gt4 := xt4.get gt1 (by simp)
      have gt5 := xt4.get gt2 (by simp)
      have gt6 := xt4.get gt3 (by simp)
      clear gt1 gt2 gt3 xt4
      repeat (first | (with_reducible refine AW.seq ?_) | (with_reducible refine AW.block ?_) | (with_reducible refine AW.skip ?_) | (with_reducible refine AW.ret ?_) | (with_reducible refine AW.exit ?_) | (with_reducible refine AW.reg hT ?_) | ((with_reducible refine AW.cond_true ?_ ?_); · rfl) | ((with_reducible refine AW.cond_false ?_ ?_); · rfl) | simp (maxSteps := 3000000) (maxDischargeDepth := 12) only [push_cast, appendX, reduceIte, reduceCtorEq, Nat.reduceSub, Nat.reduceAdd, Nat.reduceMul, Nat.reduceLT, Nat.reduceLeDiff, Nat.reduceEqDiff, Nat.reduceBEq, Int.reduceToNat, Int.reduceLT, Int.reduceLE, Int.reduceEq, Int.reduceNeg, Try.results7, dcz, dcz1, dcu2, dcg1, dcz0, dczt, dcw, gt4, Heap.lt gt4, gt5, Heap.lt gt5, gt6, Heap.lt gt6])
      refine AOpsL.call (first := []) (cap := []) hT rfl rfl rfl fn14 rfl (ACalls.mono (papply_nil _ a) ?_)
      rintro y σ5 ⟨rfl, xt5⟩
      have gt1 := xt5.get gt4 (by simp)
      have gt2 := xt5.get gt5 (by simp)
      have gt3 := xt5.get gt6 (by simp)
      clear gt4 gt5 gt6 xt5
      repeat (first | (with_reducible refine AW.seq ?_) | (with_reducible refine AW.block ?_) | (with_reducible refine AW.skip ?_) | (with_reducible refine AW.ret ?_) | (with_reducible refine AW.exit ?_) | (with_reducible refine AW.reg hT ?_) | ((with_reducible refine AW.cond_true ?_ ?_); · rfl) | ((with_reducible refine AW.cond_false ?_ ?_); · rfl) | simp (maxSteps := 3000000) (maxDischargeDepth := 12) only [push_cast, appendX, reduceIte, reduceCtorEq, Nat.reduceSub, Nat.reduceAdd, Nat.reduceMul, Nat.reduceLT, Nat.reduceLeDiff, Nat.reduceEqDiff, Nat.reduceBEq, Int.reduceToNat, Int.reduceLT, Int.reduceLE, Int.reduceEq, Int.reduceNeg, Try.results7, dcz, dcz1, dcu2, dcg1, dcz0, dczt, dcw, gt1, Heap.lt gt1, gt2, Heap.lt gt2, gt3, Heap.lt gt3])
      refine AOpsL.call (first := []) (cap := []) hT rfl rfl rfl fn19 rfl (ACalls.mono (all_nil _) ?_)
      rintro y σ6 ⟨rfl, xt4⟩
      have gt4 := xt4.get gt1 (by simp)
      have gt5 := xt4.get gt2 (by simp)
      have gt6 := xt4.get gt3 (by simp)
      clear gt1 gt2 gt3 xt4
      repeat (first | (with_reducible refine AW.seq ?_) | (with_reducible refine AW.block ?_) | (with_reducible refine AW.skip ?_) | (with_reducible refine AW.ret ?_) | (with_reducible refine AW.exit ?_) | (with_reducible refine AW.reg hT ?_) | ((with_reducible refine AW.cond_true ?_ ?_); · rfl) | ((with_reducible refine AW.cond_false ?_ ?_); · rfl) | simp (maxSteps := 3000000) (maxDischargeDepth := 12) only [push_cast, appendX, reduceIte, reduceCtorEq, Nat.reduceSub, Nat.reduceAdd, Nat.reduceMul, Nat.reduceLT, Nat.reduceLeDiff, Nat.reduceEqDiff, Nat.reduceBEq, Int.reduceToNat, Int.reduceLT, Int.reduceLE, Int.reduceEq, Int.reduceNeg, Try.results7, dcz, dcz1, dcu2, dcg1, dcz0, dczt, dcw, gt4, Heap.lt gt4, gt5, Heap.lt gt5, gt6, Heap.lt gt6])
      refine AOpsL.call (first := []) (cap := []) hT rfl rfl rfl fn23 rfl (ACalls.mono (copy_nil _) ?_)
      rintro y σ7 ⟨rfl, rfl⟩
      repeat (first | (with_reducible refine AW.seq ?_) | (with_reducible refine AW.block ?_) | (with_reducible refine AW.skip ?_) | (with_reducible refine AW.ret ?_) | (with_reducible refine AW.exit ?_) | (with_reducible refine AW.reg hT ?_) | ((with_reducible refine AW.cond_true ?_ ?_); · rfl) | ((with_reducible refine AW.cond_false ?_ ?_); · rfl) | simp (maxSteps := 3000000) (maxDischargeDepth := 12) only [push_cast, appendX, reduceIte, reduceCtorEq, Nat.reduceSub, Nat.reduceAdd, Nat.reduceMul, Nat.reduceLT, Nat.reduceLeDiff, Nat.reduceEqDiff, Nat.reduceBEq, Int.reduceToNat, Int.reduceLT, Int.reduceLE, Int.reduceEq, Int.reduceNeg, Try.results7, dcz, dcz1, dcu2, dcg1, dcz0, dczt, dcw, gt4, Heap.lt gt4, gt5, Heap.lt gt5, gt6, Heap.lt gt6])
      exact ⟨2, by omega, 1, z + 1, rfl, by omega, by omega, by rw [eA_eq]; exact gt4, gt5, gt6, by (simp only [push_cast, TellsL, tells_any, tells_refl])⟩
    · have gt7 := gt1
      have gt8 := gt2
      have gt9 := gt3
      clear gt1 gt2 gt3
      repeat (first | (with_reducible refine AW.seq ?_) | (with_reducible refine AW.block ?_) | (with_reducible refine AW.skip ?_) | (with_reducible refine AW.ret ?_) | (with_reducible refine AW.exit ?_) | (with_reducible refine AW.reg hT ?_) | ((with_reducible refine AW.cond_true ?_ ?_); · rfl) | ((with_reducible refine AW.cond_false ?_ ?_); · rfl) | simp (maxSteps := 3000000) (maxDischargeDepth := 12) only [push_cast, appendX, reduceIte, reduceCtorEq, Nat.reduceSub, Nat.reduceAdd, Nat.reduceMul, Nat.reduceLT, Nat.reduceLeDiff, Nat.reduceEqDiff, Nat.reduceBEq, Int.reduceToNat, Int.reduceLT, Int.reduceLE, Int.reduceEq, Int.reduceNeg, Try.results7, dcz, dcz1, dcu2, dcg1, dcz0, dczt, dcw, gt7, Heap.lt gt7, gt8, Heap.lt gt8, gt9, Heap.lt gt9])
      refine AOpsL.call (first := []) (cap := []) hT rfl rfl rfl fn15 rfl (ACalls.mono (theirs_ok _ a) ?_)
      rintro y σ4 ⟨rfl, xt4⟩
      have gt4 := xt4.get gt7 (by simp)
      have gt5 := xt4.get gt8 (by simp)
      have gt6 := xt4.get gt9 (by simp)
      clear gt7 gt8 gt9 xt4
      repeat (first | (with_reducible refine AW.seq ?_) | (with_reducible refine AW.block ?_) | (with_reducible refine AW.skip ?_) | (with_reducible refine AW.ret ?_) | (with_reducible refine AW.exit ?_) | (with_reducible refine AW.reg hT ?_) | ((with_reducible refine AW.cond_true ?_ ?_); · rfl) | ((with_reducible refine AW.cond_false ?_ ?_); · rfl) | simp (maxSteps := 3000000) (maxDischargeDepth := 12) only [push_cast, appendX, reduceIte, reduceCtorEq, Nat.reduceSub, Nat.reduceAdd, Nat.reduceMul, Nat.reduceLT, Nat.reduceLeDiff, Nat.reduceEqDiff, Nat.reduceBEq, Int.reduceToNat, Int.reduceLT, Int.reduceLE, Int.reduceEq, Int.reduceNeg, Try.results7, dcz, dcz1, dcu2, dcg1, dcz0, dczt, dcw, gt4, Heap.lt gt4, gt5, Heap.lt gt5, gt6, Heap.lt gt6])
      refine AOpsL.call (first := []) (cap := []) hT rfl rfl rfl fn14 rfl (ACalls.mono (papply_none _ a gt5) ?_)
      rintro y σ5 ⟨rfl, xt5⟩
      have gt1 := xt5.get gt4 (by simp)
      have gt2 := xt5.get gt5 (by simp)
      have gt3 := xt5.get gt6 (by simp)
      clear gt4 gt5 gt6 xt5
      repeat (first | (with_reducible refine AW.seq ?_) | (with_reducible refine AW.block ?_) | (with_reducible refine AW.skip ?_) | (with_reducible refine AW.ret ?_) | (with_reducible refine AW.exit ?_) | (with_reducible refine AW.reg hT ?_) | ((with_reducible refine AW.cond_true ?_ ?_); · rfl) | ((with_reducible refine AW.cond_false ?_ ?_); · rfl) | simp (maxSteps := 3000000) (maxDischargeDepth := 12) only [push_cast, appendX, reduceIte, reduceCtorEq, Nat.reduceSub, Nat.reduceAdd, Nat.reduceMul, Nat.reduceLT, Nat.reduceLeDiff, Nat.reduceEqDiff, Nat.reduceBEq, Int.reduceToNat, Int.reduceLT, Int.reduceLE, Int.reduceEq, Int.reduceNeg, Try.results7, dcz, dcz1, dcu2, dcg1, dcz0, dczt, dcw, gt1, Heap.lt gt1, gt2, Heap.lt gt2, gt3, Heap.lt gt3])
      refine AOpsL.call (first := []) (cap := []) hT rfl rfl rfl fn19 rfl (ACalls.mono (all_none _ gt2) ?_)
      rintro y σ6 ⟨rfl, xt4⟩
      have gt4 := xt4.get gt1 (by simp)
      have gt5 := xt4.get gt2 (by simp)
      have gt6 := xt4.get gt3 (by simp)
      clear gt1 gt2 gt3 xt4
      repeat (first | (with_reducible refine AW.seq ?_) | (with_reducible refine AW.block ?_) | (with_reducible refine AW.skip ?_) | (with_reducible refine AW.ret ?_) | (with_reducible refine AW.exit ?_) | (with_reducible refine AW.reg hT ?_) | ((with_reducible refine AW.cond_true ?_ ?_); · rfl) | ((with_reducible refine AW.cond_false ?_ ?_); · rfl) | simp (maxSteps := 3000000) (maxDischargeDepth := 12) only [push_cast, appendX, reduceIte, reduceCtorEq, Nat.reduceSub, Nat.reduceAdd, Nat.reduceMul, Nat.reduceLT, Nat.reduceLeDiff, Nat.reduceEqDiff, Nat.reduceBEq, Int.reduceToNat, Int.reduceLT, Int.reduceLE, Int.reduceEq, Int.reduceNeg, Try.results7, dcz, dcz1, dcu2, dcg1, dcz0, dczt, dcw, gt4, Heap.lt gt4, gt5, Heap.lt gt5, gt6, Heap.lt gt6])
      refine AOpsL.call (first := []) (cap := []) hT rfl rfl rfl fn23 rfl (ACalls.mono (copy_none _ gt5) ?_)
      rintro y σ7 ⟨rfl, rfl⟩
      repeat (first | (with_reducible refine AW.seq ?_) | (with_reducible refine AW.block ?_) | (with_reducible refine AW.skip ?_) | (with_reducible refine AW.ret ?_) | (with_reducible refine AW.exit ?_) | (with_reducible refine AW.reg hT ?_) | ((with_reducible refine AW.cond_true ?_ ?_); · rfl) | ((with_reducible refine AW.cond_false ?_ ?_); · rfl) | simp (maxSteps := 3000000) (maxDischargeDepth := 12) only [push_cast, appendX, reduceIte, reduceCtorEq, Nat.reduceSub, Nat.reduceAdd, Nat.reduceMul, Nat.reduceLT, Nat.reduceLeDiff, Nat.reduceEqDiff, Nat.reduceBEq, Int.reduceToNat, Int.reduceLT, Int.reduceLE, Int.reduceEq, Int.reduceNeg, Try.results7, dcz, dcz1, dcu2, dcg1, dcz0, dczt, dcw, gt4, Heap.lt gt4, gt5, Heap.lt gt5, gt6, Heap.lt gt6])
      exact ⟨1, by omega, 2, z + 1, rfl, by omega, by omega, by rw [eA_eq]; exact gt4, gt5, gt6, by (simp only [push_cast, TellsL, tells_any, tells_refl])⟩
  clear gt1
  rintro ts σ2 hts
  refine AW.told hts ?_
  clear hts
  have dck0 : eK lk0 = [.sc (.int .i64 0), .sc (.int .i64 1), .sc (.int .u64 9), .sc (.int .i64 1), .sc (.int .u32 0)] := rfl
  have dce0 : eA (adv0 lk0) = [.sc (.int .i64 0), .sc (.int .i64 1), .sc (.int .u64 9), .sc (.int .i64 1), .sc (.int .u32 0), .sc (.int .i64 0), .sc (.bool true), .sc (.int .u64 9), .sc (.int .u64 9), .sc (.int .u64 9), .sc (.int .u64 9), .sc (.int .u64 9), .sc (.int .u64 9), .sc (.int .u64 9), .sc (.int .u64 9)] := rfl
  have dce7 : eA ad7 = [.sc (.int .i64 0), .sc (.int .i64 1), .sc (.int .u64 9), .sc (.int .i64 1), .sc (.int .u32 0), .sc (.int .i64 7), .sc (.bool false), .sc (.int .u64 0), .sc (.int .u64 0), .sc (.int .u64 0), .sc (.int .u64 0), .sc (.int .u64 0), .sc (.int .u64 0), .sc (.int .u64 0), .sc (.int .u64 0)] := rfl
  repeat (first | (with_reducible refine AW.seq ?_) | (with_reducible refine AW.block ?_) | (with_reducible refine AW.skip ?_) | (with_reducible refine AW.ret ?_) | (with_reducible refine AW.exit ?_) | (with_reducible refine AW.reg hT ?_) | ((with_reducible refine AW.cond_true ?_ ?_); · rfl) | ((with_reducible refine AW.cond_false ?_ ?_); · rfl) | simp (maxSteps := 3000000) (maxDischargeDepth := 12) only [push_cast, appendX, reduceIte, reduceCtorEq, Nat.reduceSub, Nat.reduceAdd, Nat.reduceMul, Nat.reduceLT, Nat.reduceLeDiff, Nat.reduceEqDiff, Nat.reduceBEq, Int.reduceToNat, Int.reduceLT, Int.reduceLE, Int.reduceEq, Int.reduceNeg, Try.results7, dck0, dce0, dce7])
  refine AOpsL.call (first := []) (cap := []) hT rfl rfl rfl fn11 rfl (ACalls.mono (pnewH_ok (t := σ2.n) _ 2 [lk0] (by simpa using wlk0) (by simp (maxSteps := 3000000) (maxDischargeDepth := 12) only [push_cast, appendX, Nat.reduceAdd, Nat.reduceEqDiff, Nat.reduceLT, Nat.reduceLeDiff, reduceIte, reduceCtorEq, List.map_cons, List.map_nil, dck0, dce0, dce7]) (by decide)) ?_)
  rintro y σ3 (⟨h, _⟩ | ⟨_, p, d, rfl, hb, hpn, hnew, xt3⟩)
  · exact absurd (show chk 2 [lk0] = 0 by kernel_rfl) h
  have gtt : σ3.get σ2.n = some ⟨[eK lk0], 37, true⟩ := by simp (maxSteps := 3000000) (maxDischargeDepth := 12) only [push_cast, appendX, Nat.reduceAdd, Nat.reduceEqDiff, Nat.reduceLT, Nat.reduceLeDiff, reduceIte, reduceCtorEq, dck0, dce0, dce7, xt3.2, xt3.ltT, xt3.leT]
  rw [Heap.n_push] at hpn hnew
  have hpt : σ2.n ≠ p := by omega
  have hdt : σ2.n ∉ tOf d := fun h => by have := hnew _ h; omega
  generalize σ2.n = t at gtt hpt hdt ⊢
  clear xt3 hpn hnew
  have hpd := hb.ne
  repeat (first | (with_reducible refine AW.seq ?_) | (with_reducible refine AW.block ?_) | (with_reducible refine AW.skip ?_) | (with_reducible refine AW.ret ?_) | (with_reducible refine AW.exit ?_) | (with_reducible refine AW.reg hT ?_) | ((with_reducible refine AW.cond_true ?_ ?_); · rfl) | ((with_reducible refine AW.cond_false ?_ ?_); · rfl) | simp (maxSteps := 3000000) (maxDischargeDepth := 12) only [push_cast, appendX, reduceIte, reduceCtorEq, Nat.reduceSub, Nat.reduceAdd, Nat.reduceMul, Nat.reduceLT, Nat.reduceLeDiff, Nat.reduceEqDiff, Nat.reduceBEq, Int.reduceToNat, Int.reduceLT, Int.reduceLE, Int.reduceEq, Int.reduceNeg, Try.results7, dck0, dce0, dce7, gtt, Heap.lt gtt])
  refine AOpsL.call (first := []) (cap := []) hT rfl rfl rfl fn23 rfl (ACalls.mono (copy_ok _ hb (by decide)) ?_)
  rintro y σ4 ⟨p', d', rfl, hb', hpn, hnew, xt4⟩
  have hlt := Heap.lt gtt
  have hlp := Heap.lt hb.1
  have hpt' : t ≠ p' := by omega
  have hdt' : t ∉ tOf d' := fun h => by have := hnew _ h; omega
  have hpd' : p ∉ tOf d' := fun h => by have := hnew _ h; omega
  have hdd' : ∀ q ∈ tOf d, q ∉ tOf d' := fun q hq h => by
    have h1 := hnew _ h
    have h2 := hb.2.lt q hq
    omega
  have hb4 := hb.frame xt4 (by simp) (by simp)
  have gt4 := xt4.get gtt (by simp)
  clear xt4 hb gtt hpn hnew hlt hlp
  rw [dck0] at gt4
  repeat (first | (with_reducible refine AW.seq ?_) | (with_reducible refine AW.block ?_) | (with_reducible refine AW.skip ?_) | (with_reducible refine AW.ret ?_) | (with_reducible refine AW.exit ?_) | (with_reducible refine AW.reg hT ?_) | ((with_reducible refine AW.cond_true ?_ ?_); · rfl) | ((with_reducible refine AW.cond_false ?_ ?_); · rfl) | simp (maxSteps := 3000000) (maxDischargeDepth := 12) only [push_cast, appendX, reduceIte, reduceCtorEq, Nat.reduceSub, Nat.reduceAdd, Nat.reduceMul, Nat.reduceLT, Nat.reduceLeDiff, Nat.reduceEqDiff, Nat.reduceBEq, Int.reduceToNat, Int.reduceLT, Int.reduceLE, Int.reduceEq, Int.reduceNeg, Try.results7, dck0, dce0, dce7, gt4, Heap.lt gt4])
  refine AOpsL.call (first := []) (cap := []) hT rfl rfl rfl fn14 rfl (ACalls.mono (papply_ok (l := [adv0 lk0]) _ ad7 hb' wad7 (by decide)) ?_)
  rintro y σ5 ⟨rfl, hb5', xt5⟩
  rw [app7] at hb5'
  change Bs _ _ _ [ad7] at hb5'
  have hb5 := hb4.frame xt5 hpd' hdd'
  have gt5 := xt5.get gt4 hdt'
  clear xt5 hb4 gt4 hb'
  have hlt5 := Heap.lt gt5
  repeat (first | (with_reducible refine AW.seq ?_) | (with_reducible refine AW.block ?_) | (with_reducible refine AW.skip ?_) | (with_reducible refine AW.ret ?_) | (with_reducible refine AW.exit ?_) | (with_reducible refine AW.reg hT ?_) | ((with_reducible refine AW.cond_true ?_ ?_); · rfl) | ((with_reducible refine AW.cond_false ?_ ?_); · rfl) | simp (maxSteps := 3000000) (maxDischargeDepth := 12) only [push_cast, appendX, reduceIte, reduceCtorEq, Nat.reduceSub, Nat.reduceAdd, Nat.reduceMul, Nat.reduceLT, Nat.reduceLeDiff, Nat.reduceEqDiff, Nat.reduceBEq, Int.reduceToNat, Int.reduceLT, Int.reduceLE, Int.reduceEq, Int.reduceNeg, Try.results7, dck0, dce0, dce7, gt5, Heap.lt gt5])
  have xt6 : Ext [t] σ5 (σ5.set t ⟨[[.sc (.int .i64 0), .sc (.int .i64 1), .sc (.int .u64 5), .sc (.int .i64 1), .sc (.int .u32 0)]], 37, true⟩) := by repeat (first | exact Ext.refl _ _ | assumption | refine Ext.push ?_ _ | ((refine Ext.set ?_ ?_ _); rotate_left; · (simp (maxSteps := 3000000) (maxDischargeDepth := 12) only [push_cast, appendX, Nat.reduceAdd, Nat.reduceEqDiff, Nat.reduceLT, Nat.reduceLeDiff, reduceIte, reduceCtorEq, dck0, dce0, dce7, gt5, Heap.lt gt5])) | ((refine Ext.then1 (by assumption) ?_ ?_); rotate_left; · (intro p hp _; first | assumption | exact List.mem_cons_of_mem _ hp | (cases hp; done) | (simp at hp; subst hp; simp))))
  have hb6 := hb5.frame xt6 (by simpa using Ne.symm hpt) (by intro q hq h; simp at h; exact hdt (h ▸ hq))
  have hb6' := hb5'.frame xt6 (by simpa using Ne.symm hpt') (by intro q hq h; simp at h; exact hdt' (h ▸ hq))
  clear gt5 hb5 hb5' xt6
  refine AOpsL.call (first := []) (cap := []) hT rfl rfl rfl fn19 rfl (ACalls.mono (all_ok _ hb6 (by decide)) ?_)
  rintro y σ7 ⟨hh7, hnew7, xt7⟩
  have hb7 := hb6.frame xt7 (by simp) (by simp)
  have hb7' := hb6'.frame xt7 (by simp) (by simp)
  have hlp := Heap.lt hb6.1
  have hlp' := Heap.lt hb6'.1
  obtain ⟨t7, full7, rfl, gt7, hel7⟩ := hh7.at_ (i := 0) (by simp)
  have hpt7 : p ≠ t7 := fun h => by have := hnew7 t7 (by simp [tOf]); omega
  have hpt7' : p' ≠ t7 := fun h => by have := hnew7 t7 (by simp [tOf]); omega
  have hdt7 : ∀ q ∈ tOf d, q ≠ t7 := fun q hq h => by have := hnew7 t7 (by simp [tOf]); have := hb6.2.lt q hq; omega
  have hdt7' : ∀ q ∈ tOf d', q ≠ t7 := fun q hq h => by have := hnew7 t7 (by simp [tOf]); have := hb6'.2.lt q hq; omega
  have dcel : full7[0]? = some (eA (adv0 lk0)) := hel7
  rw [dce0] at dcel
  clear hb6 hb6' xt7 hnew7 hh7 hlp hlp'
  repeat (first | (with_reducible refine AW.seq ?_) | (with_reducible refine AW.block ?_) | (with_reducible refine AW.skip ?_) | (with_reducible refine AW.ret ?_) | (with_reducible refine AW.exit ?_) | (with_reducible refine AW.reg hT ?_) | ((with_reducible refine AW.cond_true ?_ ?_); · rfl) | ((with_reducible refine AW.cond_false ?_ ?_); · rfl) | simp (maxSteps := 3000000) (maxDischargeDepth := 12) only [push_cast, appendX, reduceIte, reduceCtorEq, Nat.reduceSub, Nat.reduceAdd, Nat.reduceMul, Nat.reduceLT, Nat.reduceLeDiff, Nat.reduceEqDiff, Nat.reduceBEq, Int.reduceToNat, Int.reduceLT, Int.reduceLE, Int.reduceEq, Int.reduceNeg, Try.results7, dck0, dce0, dce7, gt7, Heap.lt gt7, dcel])
  have xt8 : ∀ o, Ext [t7] σ7 (σ7.set t7 o) := fun o => by repeat (first | exact Ext.refl _ _ | assumption | refine Ext.push ?_ _ | ((refine Ext.set ?_ ?_ _); rotate_left; · (simp (maxSteps := 3000000) (maxDischargeDepth := 12) only [push_cast, appendX, Nat.reduceAdd, Nat.reduceEqDiff, Nat.reduceLT, Nat.reduceLeDiff, reduceIte, reduceCtorEq, dck0, dce0, dce7, gt7, Heap.lt gt7, dcel])) | ((refine Ext.then1 (by assumption) ?_ ?_); rotate_left; · (intro p hp _; first | assumption | exact List.mem_cons_of_mem _ hp | (cases hp; done) | (simp at hp; subst hp; simp))))
  have hb8 : ∀ o, Bs (σ7.set t7 o) p d [adv0 lk0] := fun o => hb7.frame (xt8 o) (by simpa using hpt7) (by intro q hq h; simp at h; exact hdt7 q hq h)
  have hb8' : ∀ o, Bs (σ7.set t7 o) p' d' [ad7] := fun o => hb7'.frame (xt8 o) (by simpa using hpt7') (by intro q hq h; simp at h; exact hdt7' q hq h)
  clear xt8 gt7 hb7 hb7'
  refine AOpsL.call (first := []) (cap := []) hT rfl rfl rfl fn19 rfl (ACalls.mono (allI_ok _ (hb8 _) (by decide)) ?_)
  rintro y σ8 ⟨rfl, xt9⟩
  have hb9 := (hb8 _).frame xt9 (by simp) (by simp)
  have hb9' := (hb8' _).frame xt9 (by simp) (by simp)
  clear xt9 hb8 hb8'
  repeat (first | (with_reducible refine AW.seq ?_) | (with_reducible refine AW.block ?_) | (with_reducible refine AW.skip ?_) | (with_reducible refine AW.ret ?_) | (with_reducible refine AW.exit ?_) | (with_reducible refine AW.reg hT ?_) | ((with_reducible refine AW.cond_true ?_ ?_); · rfl) | ((with_reducible refine AW.cond_false ?_ ?_); · rfl) | simp (maxSteps := 3000000) (maxDischargeDepth := 12) only [push_cast, appendX, reduceIte, reduceCtorEq, Nat.reduceSub, Nat.reduceAdd, Nat.reduceMul, Nat.reduceLT, Nat.reduceLeDiff, Nat.reduceEqDiff, Nat.reduceBEq, Int.reduceToNat, Int.reduceLT, Int.reduceLE, Int.reduceEq, Int.reduceNeg, Try.results7, dck0, dce0, dce7, dcel])
  refine AOpsL.call (first := []) (cap := []) hT rfl rfl rfl fn19 rfl (ACalls.mono (allI_ok _ hb9 (by decide)) ?_)
  rintro y σ9 ⟨rfl, xtA⟩
  have hbA' := hb9'.frame xtA (by simp) (by simp)
  clear xtA hb9 hb9'
  repeat (first | (with_reducible refine AW.seq ?_) | (with_reducible refine AW.block ?_) | (with_reducible refine AW.skip ?_) | (with_reducible refine AW.ret ?_) | (with_reducible refine AW.exit ?_) | (with_reducible refine AW.reg hT ?_) | ((with_reducible refine AW.cond_true ?_ ?_); · rfl) | ((with_reducible refine AW.cond_false ?_ ?_); · rfl) | simp (maxSteps := 3000000) (maxDischargeDepth := 12) only [push_cast, appendX, reduceIte, reduceCtorEq, Nat.reduceSub, Nat.reduceAdd, Nat.reduceMul, Nat.reduceLT, Nat.reduceLeDiff, Nat.reduceEqDiff, Nat.reduceBEq, Int.reduceToNat, Int.reduceLT, Int.reduceLE, Int.reduceEq, Int.reduceNeg, Try.results7, dck0, dce0, dce7, dcel])
  refine AOpsL.call (first := []) (cap := []) hT rfl rfl rfl fn19 rfl (ACalls.mono (allI_ok _ hbA' (by decide)) ?_)
  rintro y σA ⟨rfl, xtB⟩
  repeat (first | (with_reducible refine AW.seq ?_) | (with_reducible refine AW.block ?_) | (with_reducible refine AW.skip ?_) | (with_reducible refine AW.ret ?_) | (with_reducible refine AW.exit ?_) | (with_reducible refine AW.reg hT ?_) | ((with_reducible refine AW.cond_true ?_ ?_); · rfl) | ((with_reducible refine AW.cond_false ?_ ?_); · rfl) | simp (maxSteps := 3000000) (maxDischargeDepth := 12) only [push_cast, appendX, reduceIte, reduceCtorEq, Nat.reduceSub, Nat.reduceAdd, Nat.reduceMul, Nat.reduceLT, Nat.reduceLeDiff, Nat.reduceEqDiff, Nat.reduceBEq, Int.reduceToNat, Int.reduceLT, Int.reduceLE, Int.reduceEq, Int.reduceNeg, Try.results7, dck0, dce0, dce7, dcel, xtB.2, xtB.ltT, xtB.leT])
end Go.Proofs.Ytkcccomdamdocaa.Cm
