/- Package tedb's Encode. -/
import Derived.Test.YtkcccomdamdocaaTedb5
import Derived.Test.YtkcccomdamdocaaCOct
namespace Go.Proofs.Ytkcccomdamdocaa.Cm
open Go.RowKit
set_option linter.unusedVariables false
set_option linter.unusedSimpArgs false
set_option maxRecDepth 20000
set_option maxHeartbeats 8000000
def upA (a : Ad) : Int := if a.f2 = true then 1 else 0
def numsB (a : Ad) : List (Nat × Int) := [(1, a.f0.f0), (1, a.f0.f1), (1, upA a), (1, 0), (4, a.f1), (8, a.f0.f2), (4, a.f0.f3), (4, a.f0.f4)]
def nums (a : Ad) (k : Nat) : List (Nat × Int) := numsB a ++ (List.range k).map (fun j => (8, nth a (j + 1)))
theorem nums_succ (a : Ad) (k : Nat) : nums a (k + 1) = nums a k ++ [(8, nth a (k + 1))] := by simp [nums, List.range_succ]
def eN (p : Nat × Int) : List DV := [.sc (.int .i64 (p.1 : Int)), .sc (.int .u64 p.2)]
theorem nums0 (a : Ad) : (nums a 0).map eN = [[.sc (.int .i64 1), .sc (.int .u64 a.f0.f0)], [.sc (.int .i64 1), .sc (.int .u64 a.f0.f1)], [.sc (.int .i64 1), .sc (.int .u64 (upA a))], [.sc (.int .i64 1), .sc (.int .u64 0)], [.sc (.int .i64 4), .sc (.int .u64 a.f1)], [.sc (.int .i64 8), .sc (.int .u64 a.f0.f2)], [.sc (.int .i64 4), .sc (.int .u64 a.f0.f3)], [.sc (.int .i64 4), .sc (.int .u64 a.f0.f4)]] := rfl
theorem nth_wf (a : Ad) (hw : wA a) (k : Nat) : 0 ≤ nth a k ∧ nth a k < 18446744073709551616 := by
  obtain ⟨⟨_, _, h0, _⟩, _, _, h1, h2, h3, h4, h5, h6, h7, h8⟩ := hw
  replace h0 := wf_u64 h0
  replace h1 := wf_u64 h1
  replace h2 := wf_u64 h2
  replace h3 := wf_u64 h3
  replace h4 := wf_u64 h4
  replace h5 := wf_u64 h5
  replace h6 := wf_u64 h6
  replace h7 := wf_u64 h7
  replace h8 := wf_u64 h8
  unfold nth
  split <;> first | assumption | omega
theorem nums_wf (a : Ad) (hw : wA a) (hm : mayA a) : ∀ p ∈ nums a 8, 1 ≤ p.1 ∧ p.1 ≤ 8 ∧ 0 ≤ p.2 ∧ (p.1 < 8 → p.2 < 256 ^ p.1) := by
  obtain ⟨h1, h2, h3, _⟩ := hm
  unfold lkOk at h1
  have h4 := wf_u32 hw.1.2.2.2.2
  have h5 := nth_wf a hw 0
  simp only [nth] at h5
  have hu : 0 ≤ upA a ∧ upA a ≤ 1 := by unfold upA; split <;> omega
  intro p hp
  rcases List.mem_append.1 hp with hp | hp
  · simp only [numsB, List.mem_cons, List.not_mem_nil, or_false] at hp
    rcases hp with rfl | rfl | rfl | rfl | rfl | rfl | rfl | rfl <;> simp <;> omega
  · obtain ⟨j, _, rfl⟩ := List.mem_map.1 hp
    have := nth_wf a hw (j + 1)
    simp
    omega
def nuI (a : Ad) (σ0 : Heap) (m : Nat) (ts : List DV) (σ : Heap) : Prop := ∃ (k : Nat) (z : Int) (d : DV), m = 9 - k ∧ k ≤ 8 ∧ z = k ∧ Hold σ d 78 ((nums a k).map eN) ∧ (∀ q ∈ tOf d, σ0.n ≤ q) ∧ Ext [] σ0 σ ∧ TellsL ts (.any :: .any :: .any :: .any :: .any :: d :: .any :: .any :: .any :: .any :: .any :: .any :: .any :: .any :: .any :: .any :: .any :: .any :: .any :: .any :: .any :: .any :: .any :: .any :: .any :: .any :: .any :: .any :: .any :: .any :: .any :: .any :: .any :: .any :: .any :: .any :: .any :: .any :: .any :: .any :: .agg [.sc (.int .u64 a.f3.f0), .sc (.int .u64 a.f3.f1), .sc (.int .u64 a.f3.f2), .sc (.int .u64 a.f3.f3), .sc (.int .u64 a.f3.f4), .sc (.int .u64 a.f3.f5), .sc (.int .u64 a.f3.f6), .sc (.int .u64 a.f3.f7)] :: .sc (.int .i64 z) :: .any :: .any :: .any :: .any :: .any :: .any :: .any :: .any :: .any :: [])
theorem numbers_ok (σ : Heap) (a : Ad) (hw : wA a) (hm : mayA a) : ACalls Try.prog 36 [.agg (eA a)] σ (fun y σ' => y = .imm ((nums a 8).map eN) ∧ Ext [] σ σ') := by
  refine ACalls.toImmH (e := 78) ?_
  have h1 := hm.1
  unfold lkOk at h1
  have h2 := hm.2.1
  have h3 := hm.2.2.1
  have h4 := wf_u32 hw.1.2.2.2.2
  have dcw0 : IntKind.u64.wrap a.f0.f0 = a.f0.f0 := wrap_u64 (by omega) (by omega)
  have dcw1 : IntKind.u64.wrap a.f0.f1 = a.f0.f1 := wrap_u64 (by omega) (by omega)
  have dcw2 : IntKind.u64.wrap a.f1 = a.f1 := wrap_u64 (by omega) (by omega)
  have dcw3 : IntKind.u64.wrap a.f0.f3 = a.f0.f3 := wrap_u64 (by omega) (by omega)
  have dcw4 : IntKind.u64.wrap a.f0.f4 = a.f0.f4 := wrap_u64 (by omega) (by omega)
  simp only [eA_eq]
  refine ACalls.code hT Try.func36 rfl ?_
  simp only [Try.ntmps36, List.length_cons, List.length_nil, Nat.reduceSub, Nat.reduceAdd, List.replicate, List.cons_append, List.nil_append]
  have hb : (a.f2 = true ∧ upA a = 1) ∨ (a.f2 = false ∧ upA a = 0) := by
    cases h : a.f2 <;> simp [upA, h]
  rcases hb with ⟨dcb, dcu⟩ | ⟨dcb, dcu⟩
  all_goals
    repeat (first | (with_reducible refine AW.seq ?_) | (with_reducible refine AW.block ?_) | (with_reducible refine AW.skip ?_) | (with_reducible refine AW.ret ?_) | (with_reducible refine AW.exit ?_) | (with_reducible refine AW.reg hT ?_) | ((with_reducible refine AW.cond_true ?_ ?_); · rfl) | ((with_reducible refine AW.cond_false ?_ ?_); · rfl) | simp (maxSteps := 3000000) (maxDischargeDepth := 12) only [push_cast,appendX,reduceIte,reduceCtorEq,Nat.reduceSub,Nat.reduceAdd,Nat.reduceMul,Nat.reduceLT,Nat.reduceLeDiff,Nat.reduceEqDiff,Nat.reduceBEq,Int.reduceToNat,Int.reduceLT,Int.reduceLE,Int.reduceEq,Int.reduceNeg,Try.results36,dcw0,dcw1,dcw2,dcw3,dcw4,dcb,dcu])
    refine AW.loop (nuI a σ) (m := 9) ⟨0, 0, .sl (σ.n + 2) 0 8 8, rfl, by omega, rfl, Hold.row (t := σ.n + 2) (els := (nums a 0).map eN) (by rw [nums0, dcu]; simp (maxSteps := 3000000) (maxDischargeDepth := 12) only [push_cast, appendX, Nat.reduceAdd, Nat.reduceEqDiff, Nat.reduceLT, Nat.reduceLeDiff, reduceIte, reduceCtorEq, dcw0, dcw1, dcw2, dcw3, dcw4, dcb, dcu]), by intro q hq; simp [tOf] at hq; omega, by repeat (first | exact Ext.refl _ _ | assumption | refine Ext.push ?_ _ | ((refine Ext.set ?_ ?_ _); rotate_left; · (simp (maxSteps := 3000000) (maxDischargeDepth := 12) only [push_cast, appendX, Nat.reduceAdd, Nat.reduceEqDiff, Nat.reduceLT, Nat.reduceLeDiff, reduceIte, reduceCtorEq, dcw0, dcw1, dcw2, dcw3, dcw4, dcb, dcu])) | ((refine Ext.then1 (by assumption) ?_ ?_); rotate_left; · (intro p hp _; first | assumption | exact List.mem_cons_of_mem _ hp | (cases hp; done) | (simp at hp; subst hp; simp)))), by (simp only [push_cast, TellsL, tells_any, tells_refl])⟩ ?_
    rintro m ts σ4 ⟨k, z, d, rfl, hk, hz, hh, hnew, xt4, hts⟩
    refine AW.told hts ?_
    clear hts
    by_cases h8 : k = 8
    · subst h8
      have dcz : decide (z < 8) = false := by simp; omega
      have dncl := hh.cells
      have dnlf := hh.leaf
      repeat (first | (with_reducible refine AW.seq ?_) | (with_reducible refine AW.block ?_) | (with_reducible refine AW.skip ?_) | (with_reducible refine AW.ret ?_) | (with_reducible refine AW.exit ?_) | (with_reducible refine AW.reg hT ?_) | ((with_reducible refine AW.cond_true ?_ ?_); · rfl) | ((with_reducible refine AW.cond_false ?_ ?_); · rfl) | simp (maxSteps := 3000000) (maxDischargeDepth := 12) only [push_cast,appendX,reduceIte,reduceCtorEq,Nat.reduceSub,Nat.reduceAdd,Nat.reduceMul,Nat.reduceLT,Nat.reduceLeDiff,Nat.reduceEqDiff,Nat.reduceBEq,Int.reduceToNat,Int.reduceLT,Int.reduceLE,Int.reduceEq,Int.reduceNeg,Try.results36,dcw0,dcw1,dcw2,dcw3,dcw4,dcb,dcu,xt4.2,xt4.ltT,xt4.leT,dcz,↓dncl,↓dnlf])
      exact ⟨hh, hnew, xt4⟩
    have dcu8 : ((1 : Int) + 1 + 1 + 1 + 1 + 1 + 1 + 1) = 8 := by decide
    have dcz : decide (z < 8) = true := by simp; omega
    have dcz1 : (z < 8) = True := by simp; omega
    have dcz0 : (0 ≤ z) = True := by simp; omega
    have dczt : z.toNat = k := by omega
    have dcw : IntKind.i64.wrap (z + 1) = z + 1 := wrap_i64 (by omega) (by omega)
    obtain ⟨d5, σ5, dnapp, hh5, hnew5, xt5⟩ := Hold.app1 (ty := 75) (x := [.sc (.int .i64 8), .sc (.int .u64 (nth a (k + 1)))]) hh hnew xt4 rfl rfl (by decide) rfl (by simp [nums, numsB]; omega)
    have hns : (nums a (k + 1)).map eN = (nums a k).map eN ++ [[.sc (.int .i64 8), .sc (.int .u64 (nth a (k + 1)))]] := by rw [nums_succ]; simp [eN]
    rw [← hns] at hh5
    clear hh hnew hns
    obtain rfl | rfl | rfl | rfl | rfl | rfl | rfl | rfl : k = 0 ∨ k = 1 ∨ k = 2 ∨ k = 3 ∨ k = 4 ∨ k = 5 ∨ k = 6 ∨ k = 7 := by omega
    all_goals
      simp only [nth] at dnapp
      simp only [Nat.reduceAdd] at hh5
      repeat (first | (with_reducible refine AW.seq ?_) | (with_reducible refine AW.block ?_) | (with_reducible refine AW.skip ?_) | (with_reducible refine AW.ret ?_) | (with_reducible refine AW.exit ?_) | (with_reducible refine AW.reg hT ?_) | ((with_reducible refine AW.cond_true ?_ ?_); · rfl) | ((with_reducible refine AW.cond_false ?_ ?_); · rfl) | simp (maxSteps := 3000000) (maxDischargeDepth := 12) only [push_cast,appendX,reduceIte,reduceCtorEq,Nat.reduceSub,Nat.reduceAdd,Nat.reduceMul,Nat.reduceLT,Nat.reduceLeDiff,Nat.reduceEqDiff,Nat.reduceBEq,Int.reduceToNat,Int.reduceLT,Int.reduceLE,Int.reduceEq,Int.reduceNeg,Try.results36,dcw0,dcw1,dcw2,dcw3,dcw4,dcb,dcu,xt4.2,xt4.ltT,xt4.leT,dcu8,dcz,dcz1,dcz0,dczt,dcw,↓dnapp,xt5.2,xt5.ltT,xt5.leT])
      exact ⟨_, by decide, _, z + 1, d5, rfl, by decide, by omega, hh5, hnew5, xt5, by (simp only [push_cast, TellsL, tells_any, tells_refl])⟩
end Go.Proofs.Ytkcccomdamdocaa.Cm
