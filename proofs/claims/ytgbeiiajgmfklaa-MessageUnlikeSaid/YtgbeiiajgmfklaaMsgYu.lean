/- Chapter 8: MessageUnlike. -/
import Derived.Test.YtgbeiiajgmfklaaMsgYh
namespace Go.Proofs.Ytgbeiiajgmfklaa.Cm
open Go.RowKit
set_option linter.unusedVariables false
set_option linter.unusedSimpArgs false
set_option maxRecDepth 20000
set_option maxHeartbeats 8000000
open Classical in
theorem unlikeZ (σ : Heap) {a b : Me} (hwa : a.rt.length ≤ 6000 ∧ a.rc.length ≤ 6000 → a.Wf) (hwb : b.rt.length ≤ 6000 ∧ b.rc.length ≤ 6000 → b.Wf) : ACalls Try.prog 5 [.agg (meC a), .agg (meC b)] σ (fun y σ' => y = .sc (.bool true)) := by
  simp only [meC, mgC]
  refine ACalls.code hT Try.func5 rfl ?_
  simp only [Try.ntmps5, List.length_cons, List.length_nil, Nat.reduceSub, Nat.reduceAdd, List.replicate, List.cons_append, List.nil_append]
  repeat (first | (with_reducible first | refine AW.seq ?_ | refine AW.block ?_ | refine AW.skip ?_ | refine AW.ret ?_ | refine AW.exit ?_ | refine AW.reg hT ?_) | ((with_reducible refine AW.cond_true ?_ ?_); · rfl) | ((with_reducible refine AW.cond_false ?_ ?_); · rfl) | simp (maxSteps := 3000000) (maxDischargeDepth := 12) only [seval,push_cast,appendX,Try.results5])
  refine AOpsL.call (first := []) (cap := []) hT rfl rfl rfl fn7 rfl (ACalls.mono (alive_ok _) ?_)
  rintro y σ1 ⟨rfl, xt1⟩
  have gta1 : σ1.get σ.n = some ⟨[meC a], 30, true⟩ := xt1.get (by simp (maxSteps := 3000000) (maxDischargeDepth := 12) only [push_cast, appendX, Nat.reduceAdd, Nat.reduceEqDiff, Nat.reduceLT, Nat.reduceLeDiff, reduceIte, reduceCtorEq, meC, mgC, xt1.2, xt1.ltT, xt1.leT]) (by simp)
  have gtb1 : σ1.get (σ.n + 1) = some ⟨[meC b], 30, true⟩ := xt1.get (by simp (maxSteps := 3000000) (maxDischargeDepth := 12) only [push_cast, appendX, Nat.reduceAdd, Nat.reduceEqDiff, Nat.reduceLT, Nat.reduceLeDiff, reduceIte, reduceCtorEq, meC, mgC, xt1.2, xt1.ltT, xt1.leT, gta1, Heap.lt gta1]) (by simp)
  clear xt1
  generalize σ.n = pa at gta1 gtb1 ⊢
  generalize pa + 1 = pb at gtb1 ⊢
  repeat (first | (with_reducible first | refine AW.seq ?_ | refine AW.block ?_ | refine AW.skip ?_ | refine AW.ret ?_ | refine AW.exit ?_ | refine AW.reg hT ?_) | ((with_reducible refine AW.cond_true ?_ ?_); · rfl) | ((with_reducible refine AW.cond_false ?_ ?_); · rfl) | simp (maxSteps := 3000000) (maxDischargeDepth := 12) only [seval,push_cast,appendX,Try.results5,meC,mgC,gta1,Heap.lt gta1,gtb1,Heap.lt gtb1])
  refine AOpsL.call (first := []) (cap := []) hT rfl rfl rfl fn8 rfl (ACalls.mono (fits_ok _ a) ?_)
  rintro y σ2 ⟨rfl, xt2⟩
  have gta2 := xt2.get gta1 (by simp)
  have gtb2 := xt2.get gtb1 (by simp)
  clear xt2 gta1 gtb1
  by_cases hf : ¬ (a.rt.length ≤ 6000 ∧ a.rc.length ≤ 6000)
  · rw [decide_eq_false hf]
    repeat (first | (with_reducible first | refine AW.seq ?_ | refine AW.block ?_ | refine AW.skip ?_ | refine AW.ret ?_ | refine AW.exit ?_ | refine AW.reg hT ?_) | ((with_reducible refine AW.cond_true ?_ ?_); · rfl) | ((with_reducible refine AW.cond_false ?_ ?_); · rfl) | simp (maxSteps := 3000000) (maxDischargeDepth := 12) only [seval,push_cast,appendX,Try.results5,gta2,Heap.lt gta2,gtb2,Heap.lt gtb2])
  · have hf := Decidable.not_not.1 hf
    have hwa := hwa hf
    rw [decide_eq_true hf]
    repeat (first | (with_reducible first | refine AW.seq ?_ | refine AW.block ?_ | refine AW.skip ?_ | refine AW.ret ?_ | refine AW.exit ?_ | refine AW.reg hT ?_) | ((with_reducible refine AW.cond_true ?_ ?_); · rfl) | ((with_reducible refine AW.cond_false ?_ ?_); · rfl) | simp (maxSteps := 3000000) (maxDischargeDepth := 12) only [seval,push_cast,appendX,Try.results5,meC,mgC,gta2,Heap.lt gta2,gtb2,Heap.lt gtb2])
    refine AOpsL.call (first := []) (cap := []) hT rfl rfl rfl fn8 rfl (ACalls.mono (fits_ok _ b) ?_)
    rintro y σ3 ⟨rfl, xt3⟩
    have gta3 := xt3.get gta2 (by simp)
    have gtb3 := xt3.get gtb2 (by simp)
    clear xt3 gta2 gtb2
    by_cases hf2 : ¬ (b.rt.length ≤ 6000 ∧ b.rc.length ≤ 6000)
    · rw [decide_eq_false hf2]
      repeat (first | (with_reducible first | refine AW.seq ?_ | refine AW.block ?_ | refine AW.skip ?_ | refine AW.ret ?_ | refine AW.exit ?_ | refine AW.reg hT ?_) | ((with_reducible refine AW.cond_true ?_ ?_); · rfl) | ((with_reducible refine AW.cond_false ?_ ?_); · rfl) | simp (maxSteps := 3000000) (maxDischargeDepth := 12) only [seval,push_cast,appendX,Try.results5,gta3,Heap.lt gta3,gtb3,Heap.lt gtb3])
    · have hf2 := Decidable.not_not.1 hf2
      have hwb := hwb hf2
      rw [decide_eq_true hf2]
      repeat (first | (with_reducible first | refine AW.seq ?_ | refine AW.block ?_ | refine AW.skip ?_ | refine AW.ret ?_ | refine AW.exit ?_ | refine AW.reg hT ?_) | ((with_reducible refine AW.cond_true ?_ ?_); · rfl) | ((with_reducible refine AW.cond_false ?_ ?_); · rfl) | simp (maxSteps := 3000000) (maxDischargeDepth := 12) only [seval,push_cast,appendX,Try.results5,meC,mgC,gta3,Heap.lt gta3,gtb3,Heap.lt gtb3])
      refine AOpsL.call (first := []) (cap := []) hT rfl rfl rfl fn10 rfl (ACalls.mono (theirs_ok _ a) ?_)
      rintro y σ4 ⟨rfl, xt4⟩
      have gta4 := xt4.get gta3 (by simp)
      have gtb4 := xt4.get gtb3 (by simp)
      clear xt4 gta3 gtb3
      repeat (first | (with_reducible first | refine AW.seq ?_ | refine AW.block ?_ | refine AW.skip ?_ | refine AW.ret ?_ | refine AW.exit ?_ | refine AW.reg hT ?_) | ((with_reducible refine AW.cond_true ?_ ?_); · rfl) | ((with_reducible refine AW.cond_false ?_ ?_); · rfl) | simp (maxSteps := 3000000) (maxDischargeDepth := 12) only [seval,push_cast,appendX,Try.results5,gta4,Heap.lt gta4,gtb4,Heap.lt gtb4])
      refine AOpsL.call (first := []) (cap := []) hT rfl rfl rfl fn9 rfl (ACalls.mono (mencI_ok _ hwa) ?_)
      rintro y σ5 ⟨rfl, xt5⟩
      have gta5 := xt5.get gta4 (by simp)
      have gtb5 := xt5.get gtb4 (by simp)
      clear xt5 gta4 gtb4
      repeat (first | (with_reducible first | refine AW.seq ?_ | refine AW.block ?_ | refine AW.skip ?_ | refine AW.ret ?_ | refine AW.exit ?_ | refine AW.reg hT ?_) | ((with_reducible refine AW.cond_true ?_ ?_); · rfl) | ((with_reducible refine AW.cond_false ?_ ?_); · rfl) | simp (maxSteps := 3000000) (maxDischargeDepth := 12) only [seval,push_cast,appendX,Try.results5,meC,mgC,gta5,Heap.lt gta5,gtb5,Heap.lt gtb5])
      refine AOpsL.call (first := []) (cap := []) hT rfl rfl rfl fn10 rfl (ACalls.mono (theirs_ok _ b) ?_)
      rintro y σ6 ⟨rfl, xt6⟩
      have gta6 := xt6.get gta5 (by simp)
      have gtb6 := xt6.get gtb5 (by simp)
      clear xt6 gta5 gtb5
      repeat (first | (with_reducible first | refine AW.seq ?_ | refine AW.block ?_ | refine AW.skip ?_ | refine AW.ret ?_ | refine AW.exit ?_ | refine AW.reg hT ?_) | ((with_reducible refine AW.cond_true ?_ ?_); · rfl) | ((with_reducible refine AW.cond_false ?_ ?_); · rfl) | simp (maxSteps := 3000000) (maxDischargeDepth := 12) only [seval,push_cast,appendX,Try.results5,gta6,Heap.lt gta6,gtb6,Heap.lt gtb6])
      refine AOpsL.call (first := []) (cap := []) hT rfl rfl rfl fn9 rfl (ACalls.mono (mencI_ok _ hwb) ?_)
      rintro y σ7 ⟨rfl, xt7⟩
      have gta7 := xt7.get gta6 (by simp)
      have gtb7 := xt7.get gtb6 (by simp)
      clear xt7 gta6 gtb6
      have dc20 : ((2 : Int) == 0) = false := rfl
      by_cases hma : ¬ mayM a
      · rw [encM_no hma]
        repeat (first | (with_reducible first | refine AW.seq ?_ | refine AW.block ?_ | refine AW.skip ?_ | refine AW.ret ?_ | refine AW.exit ?_ | refine AW.reg hT ?_) | ((with_reducible show AW _ (.region 7 _ _) _ _ _); (with_reducible refine AW.drawn (id := 7) hT [0,1,2,3,4,5,6,7,8,9,10,11,12,13,14,15,16,17] [[],[0],[0,1],[0,1,2],[0,1,2,3],[0,1,2,3,4],[0,1,2,3,4,5],[0,1,2,3,4,5,6],[0,1,2,3,4,5,6,7],[0,1,2,3,4,5,6],[0,1,2,3,4,5,6,9],[0,1,2,3,4,5,6,7,8,9,10],[0,1,2,3,4,5,6],[0,1,2,3,4,5,6],[0,1,2,3,4,5,6,12,13],[0,1,2,3,4,5,6,7,8,9,10,11,12,13,14],[0,1,2,3,4,5,6,7,8,9,10,11,12,13,14,15],[0,1,2,3,4,5,6,7,8,9,10,11,12,13,14,15,16]] mix (by kernel_rfl) ?_)) | ((with_reducible show DLeft _ _ _ _ (_ :: _) _ _ _ _); (with_reducible apply DLeft.step hT); (case hoi => ((simp only [List.getElem?_toArray,List.getElem?_cons_zero,List.getElem?_cons_succ]); with_reducible rfl)); (case hg => rfl); (case hk => rfl); (case hr => ((try simp (maxSteps := 3000000) (maxDischargeDepth := 12) only [seval,push_cast,appendX,Try.results5,gta7,Heap.lt gta7,gtb7,Heap.lt gtb7,dc20]); with_reducible rfl))) | ((with_reducible refine AW.cond_true ?_ ?_); · rfl) | ((with_reducible refine AW.cond_false ?_ ?_); · rfl) | simp (maxSteps := 3000000) (maxDischargeDepth := 12) only [seval,push_cast,appendX,Try.results5,gta7,Heap.lt gta7,gtb7,Heap.lt gtb7,dc20])
      · have hma := Decidable.not_not.1 hma
        rw [encM_yes hma]
        by_cases hmb : ¬ mayM b
        · rw [encM_no hmb]
          repeat (first | (with_reducible first | refine AW.seq ?_ | refine AW.block ?_ | refine AW.skip ?_ | refine AW.ret ?_ | refine AW.exit ?_ | refine AW.reg hT ?_) | ((with_reducible show AW _ (.region 7 _ _) _ _ _); (with_reducible refine AW.drawn (id := 7) hT [0,1,2,3,4,5,6,7,8,9,10,11,12,13,14,15,16,17] [[],[0],[0,1],[0,1,2],[0,1,2,3],[0,1,2,3,4],[0,1,2,3,4,5],[0,1,2,3,4,5,6],[0,1,2,3,4,5,6,7],[0,1,2,3,4,5,6],[0,1,2,3,4,5,6,9],[0,1,2,3,4,5,6,7,8,9,10],[0,1,2,3,4,5,6],[0,1,2,3,4,5,6],[0,1,2,3,4,5,6,12,13],[0,1,2,3,4,5,6,7,8,9,10,11,12,13,14],[0,1,2,3,4,5,6,7,8,9,10,11,12,13,14,15],[0,1,2,3,4,5,6,7,8,9,10,11,12,13,14,15,16]] mix (by kernel_rfl) ?_)) | ((with_reducible show DLeft _ _ _ _ (_ :: _) _ _ _ _); (with_reducible apply DLeft.step hT); (case hoi => ((simp only [List.getElem?_toArray,List.getElem?_cons_zero,List.getElem?_cons_succ]); with_reducible rfl)); (case hg => rfl); (case hk => rfl); (case hr => ((try simp (maxSteps := 3000000) (maxDischargeDepth := 12) only [seval,push_cast,appendX,Try.results5,gta7,Heap.lt gta7,gtb7,Heap.lt gtb7,dc20]); with_reducible rfl))) | ((with_reducible refine AW.cond_true ?_ ?_); · rfl) | ((with_reducible refine AW.cond_false ?_ ?_); · rfl) | simp (maxSteps := 3000000) (maxDischargeDepth := 12) only [seval,push_cast,appendX,Try.results5,gta7,Heap.lt gta7,gtb7,Heap.lt gtb7,dc20])
        · have hmb := Decidable.not_not.1 hmb
          rw [encM_yes hmb]
          have dcst := str_eq (sealM_octs hma) (sealM_octs hmb)
          have hinj : sealM a = sealM b ↔ a = b := ⟨sealM_inj hma hmb, fun h => by rw [h]⟩
          generalize sealM a = sa at *
          generalize sealM b = sb at *
          repeat (first | (with_reducible first | refine AW.seq ?_ | refine AW.block ?_ | refine AW.skip ?_ | refine AW.ret ?_ | refine AW.exit ?_ | refine AW.reg hT ?_) | ((with_reducible show AW _ (.region 7 _ _) _ _ _); (with_reducible refine AW.drawn (id := 7) hT [0,1,2,3,4,5,6,7,8,9,10,11,12,13,14,15,16,17] [[],[0],[0,1],[0,1,2],[0,1,2,3],[0,1,2,3,4],[0,1,2,3,4,5],[0,1,2,3,4,5,6],[0,1,2,3,4,5,6,7],[0,1,2,3,4,5,6],[0,1,2,3,4,5,6,9],[0,1,2,3,4,5,6,7,8,9,10],[0,1,2,3,4,5,6],[0,1,2,3,4,5,6],[0,1,2,3,4,5,6,12,13],[0,1,2,3,4,5,6,7,8,9,10,11,12,13,14],[0,1,2,3,4,5,6,7,8,9,10,11,12,13,14,15],[0,1,2,3,4,5,6,7,8,9,10,11,12,13,14,15,16]] mix (by kernel_rfl) ?_)) | ((with_reducible show DLeft _ _ _ _ (_ :: _) _ _ _ _); (with_reducible apply DLeft.step hT); (case hoi => ((simp only [List.getElem?_toArray,List.getElem?_cons_zero,List.getElem?_cons_succ]); with_reducible rfl)); (case hg => rfl); (case hk => rfl); (case hr => ((try simp (maxSteps := 3000000) (maxDischargeDepth := 12) only [seval,push_cast,appendX,Try.results5,meC,mgC,gta7,Heap.lt gta7,gtb7,Heap.lt gtb7,dc20,dcst]); with_reducible rfl))) | ((with_reducible refine AW.cond_true ?_ ?_); · rfl) | ((with_reducible refine AW.cond_false ?_ ?_); · rfl) | simp (maxSteps := 3000000) (maxDischargeDepth := 12) only [seval,push_cast,appendX,Try.results5,meC,mgC,gta7,Heap.lt gta7,gtb7,Heap.lt gtb7,dc20,dcst])
          ((apply DLeft.call (f := 12) (first := []) (cap := [])); (case hoi => ((simp only [List.getElem?_toArray, List.getElem?_cons_zero, List.getElem?_cons_succ]); with_reducible rfl)); (case hg => rfl); (case ho => rfl); (case hc => rfl); (case hf => exact fn12); (case has => rfl)); refine ACalls.mono (rSame_ok _ (a := a) (b := b) (by omega) (by omega)) ?_
          rintro y σ8 ⟨xt8, t, rfl, ht⟩
          have dct : (decide (sa = sb) == t) = true := by
            rw [beq_iff_eq, Bool.eq_iff_iff, ht, decide_eq_true_iff]; exact hinj
          repeat (first | (with_reducible first | refine AW.seq ?_ | refine AW.block ?_ | refine AW.skip ?_ | refine AW.ret ?_ | refine AW.exit ?_ | refine AW.reg hT ?_) | ((with_reducible show AW _ (.region 7 _ _) _ _ _); (with_reducible refine AW.drawn (id := 7) hT [0,1,2,3,4,5,6,7,8,9,10,11,12,13,14,15,16,17] [[],[0],[0,1],[0,1,2],[0,1,2,3],[0,1,2,3,4],[0,1,2,3,4,5],[0,1,2,3,4,5,6],[0,1,2,3,4,5,6,7],[0,1,2,3,4,5,6],[0,1,2,3,4,5,6,9],[0,1,2,3,4,5,6,7,8,9,10],[0,1,2,3,4,5,6],[0,1,2,3,4,5,6],[0,1,2,3,4,5,6,12,13],[0,1,2,3,4,5,6,7,8,9,10,11,12,13,14],[0,1,2,3,4,5,6,7,8,9,10,11,12,13,14,15],[0,1,2,3,4,5,6,7,8,9,10,11,12,13,14,15,16]] mix (by kernel_rfl) ?_)) | ((with_reducible show DLeft _ _ _ _ (_ :: _) _ _ _ _); (with_reducible apply DLeft.step hT); (case hoi => ((simp only [List.getElem?_toArray,List.getElem?_cons_zero,List.getElem?_cons_succ]); with_reducible rfl)); (case hg => rfl); (case hk => rfl); (case hr => ((try simp (maxSteps := 3000000) (maxDischargeDepth := 12) only [seval,push_cast,appendX,Try.results5,gta7,Heap.lt gta7,gtb7,Heap.lt gtb7,dc20,dcst,xt8.2,xt8.ltT,xt8.leT,dct]); with_reducible rfl))) | ((with_reducible refine AW.cond_true ?_ ?_); · rfl) | ((with_reducible refine AW.cond_false ?_ ?_); · rfl) | simp (maxSteps := 3000000) (maxDischargeDepth := 12) only [seval,push_cast,appendX,Try.results5,gta7,Heap.lt gta7,gtb7,Heap.lt gtb7,dc20,dcst,xt8.2,xt8.ltT,xt8.leT,dct])
theorem unlike_ok (x y : Ms) (h : wM x) (h2 : wM y) : ACalls Try.prog 5 [.agg (eM x), .agg (eM y)] ⟨[]⟩ (fun y _ => y = .sc (.bool true)) := by
  rw [eM_eq, eM_eq]
  exact unlikeZ _ (fun hf => wM_wf h hf.1 hf.2) (fun hf => wM_wf h2 hf.1 hf.2)
end Go.Proofs.Ytgbeiiajgmfklaa.Cm
