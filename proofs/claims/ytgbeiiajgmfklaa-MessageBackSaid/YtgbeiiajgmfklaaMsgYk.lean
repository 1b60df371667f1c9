/- Chapter 8: MessageBack. -/
import Derived.Test.YtgbeiiajgmfklaaMsgYh
namespace Go.Proofs.Ytgbeiiajgmfklaa.Cm
open Go.RowKit
set_option linter.unusedVariables false
set_option linter.unusedSimpArgs false
set_option maxRecDepth 20000
set_option maxHeartbeats 8000000
theorem decL_wf : ∀ (cs : List Int) (os : List Ob) (m w : Me), (∀ c ∈ cs, classM c) → (∀ o ∈ os, Octs o.f2 ∧ i64r o.f0) → m.Wf → decL cs os m = some w → w.Wf
  | c :: cs, o :: os, m, w, hc, ho, hm, h => by
    rw [decL] at h
    split at h
    · rename_i hcond
      have hoo := ho o (by simp)
      obtain ⟨h1, h2, _, _⟩ := unp_back hoo.1 hcond.1
      have hx : i64r (unpA o.f0 o.f1 o.f2).1.cls := by rw [h2]; exact hoo.2
      refine decL_wf cs os _ w (fun c hc' => hc c (by simp [hc'])) (fun o ho' => ho o (by simp [ho'])) (mtake_wf (hc c (by simp)) hm (may_wf hx h1) (fun h5 => (may_u hx h1 (by rw [hcond.2]; exact h5)).2) (by have := may_len h1; omega)) h
    · cases h
  | [], _, m, w, _, _, hm, h => by simp only [decL, Option.some.injEq] at h; rw [← h]; exact hm
  | _ :: _, [], m, w, _, _, hm, h => by simp only [decL, Option.some.injEq] at h; rw [← h]; exact hm
theorem decM_wf {b : List Int} (ho : Octs b) {w : Me} (h : decM b = (w, 0)) : w.Wf := by
  unfold decM at h
  split at h
  · rename_i a0 a1 a2 a3 a4 a5 a6 a7 r
    split at h
    · simp at h
    · split at h
      · simp at h
      · split at h
        · simp at h
        · split at h
          · rename_i _ h5; simp at h; exact absurd h.2 h5
          · rename_i h5
            split at h
            · simp at h
            · split at h
              · simp at h
              · rename_i m hm
                split at h
                · simp at h
                  subst h
                  have hor : Octs r := fun x hx => ho x (by simp [hx])
                  have hob := (dec_obs hor (by simpa using h5)).1
                  have h1 := ho a1 (by simp)
                  have h4 := ho a4 (by simp)
                  exact decL_wf _ _ _ _ (fun c hc => fields_class hc) (fun o ho' => ⟨(hob o ho').2, by have := (hob o ho').1.1; exact ⟨by omega, by omega⟩⟩) (mz_wf h1 h4) hm
                · simp at h
  · simp at h
open Classical in
theorem backZ (σ : Heap) {z : Me} {b : List Int} (hw : z.rt.length ≤ 6000 ∧ z.rc.length ≤ 6000 → z.Wf) (ho : Octs b) : ACalls Try.prog 3 [.agg (meC z), .imm (bytesD b)] σ (fun y σ' => y = .sc (.bool true)) := by
  have dcbl : (bytesD b).length = b.length := bytesD_length _
  simp only [meC, mgC]
  refine ACalls.code hT Try.func3 rfl ?_
  simp only [Try.ntmps3, List.length_cons, List.length_nil, Nat.reduceSub, Nat.reduceAdd, List.replicate, List.cons_append, List.nil_append]
  repeat (first | (with_reducible first | refine AW.seq ?_ | refine AW.block ?_ | refine AW.skip ?_ | refine AW.ret ?_ | refine AW.exit ?_ | refine AW.reg hT ?_) | ((with_reducible refine AW.cond_true ?_ ?_); · rfl) | ((with_reducible refine AW.cond_false ?_ ?_); · rfl) | simp (maxSteps := 3000000) (maxDischargeDepth := 12) only [seval,push_cast,appendX,Try.results3,dcbl])
  refine AOpsL.call (first := []) (cap := []) hT rfl rfl rfl fn7 rfl (ACalls.mono (alive_ok _) ?_)
  rintro y σ1 ⟨rfl, xt1⟩
  have gt1 : σ1.get σ.n = some ⟨[meC z], 30, true⟩ := xt1.get (by simp (maxSteps := 3000000) (maxDischargeDepth := 12) only [push_cast, appendX, Nat.reduceAdd, Nat.reduceEqDiff, Nat.reduceLT, Nat.reduceLeDiff, reduceIte, reduceCtorEq, meC, mgC, dcbl, xt1.2, xt1.ltT, xt1.leT]) (by simp)
  clear xt1
  repeat (first | (with_reducible first | refine AW.seq ?_ | refine AW.block ?_ | refine AW.skip ?_ | refine AW.ret ?_ | refine AW.exit ?_ | refine AW.reg hT ?_) | ((with_reducible refine AW.cond_true ?_ ?_); · rfl) | ((with_reducible refine AW.cond_false ?_ ?_); · rfl) | simp (maxSteps := 3000000) (maxDischargeDepth := 12) only [seval,push_cast,appendX,Try.results3,meC,mgC,dcbl,gt1,Heap.lt gt1])
  refine AOpsL.call (first := []) (cap := []) hT rfl rfl rfl fn8 rfl (ACalls.mono (fits_ok _ z) ?_)
  rintro y σ2 ⟨rfl, xt2⟩
  have g2 := xt2.get gt1 (by simp)
  clear xt2 gt1
  by_cases hf : ¬ (z.rt.length ≤ 6000 ∧ z.rc.length ≤ 6000)
  · rw [decide_eq_false hf]
    repeat (first | (with_reducible first | refine AW.seq ?_ | refine AW.block ?_ | refine AW.skip ?_ | refine AW.ret ?_ | refine AW.exit ?_ | refine AW.reg hT ?_) | ((with_reducible refine AW.cond_true ?_ ?_); · rfl) | ((with_reducible refine AW.cond_false ?_ ?_); · rfl) | simp (maxSteps := 3000000) (maxDischargeDepth := 12) only [seval,push_cast,appendX,Try.results3,dcbl])
  · have hf := Decidable.not_not.1 hf
    have hw := hw hf
    rw [decide_eq_true hf]
    by_cases hbl : 6000 < b.length
    · have dcb6 : decide (6000 < (b.length : Int)) = true := by simp; omega
      repeat (first | (with_reducible first | refine AW.seq ?_ | refine AW.block ?_ | refine AW.skip ?_ | refine AW.ret ?_ | refine AW.exit ?_ | refine AW.reg hT ?_) | ((with_reducible refine AW.cond_true ?_ ?_); · rfl) | ((with_reducible refine AW.cond_false ?_ ?_); · rfl) | simp (maxSteps := 3000000) (maxDischargeDepth := 12) only [seval,push_cast,appendX,Try.results3,dcbl,dcb6])
    · have dcb6 : decide (6000 < (b.length : Int)) = false := by simp; omega
      repeat ((fail_if_success (with_reducible refine AW.at1 (id := 5) ?_)); (fail_if_success (with_reducible refine AW.at2 (id := 5) ?_)); first | (with_reducible first | refine AW.seq ?_ | refine AW.block ?_ | refine AW.skip ?_ | refine AW.ret ?_ | refine AW.exit ?_ | refine AW.reg hT ?_) | ((with_reducible refine AW.cond_true ?_ ?_); · rfl) | ((with_reducible refine AW.cond_false ?_ ?_); · rfl) | simp (maxSteps := 3000000) (maxDischargeDepth := 12) only [seval,push_cast,appendX,Try.results3,dcbl,dcb6])
      refine AW.seqK (fun ts σ' => TellsL ts (.any :: .imm (bytesD b) :: .any :: .any :: .any :: .any :: .any :: .any :: .any :: .any :: .any :: .any :: .any :: .any :: .any :: .any :: .any :: .any :: .any :: .any :: .any :: .any :: .any :: .any :: .any :: .any :: .any :: .any :: .any :: .any :: .any :: .any :: .any :: .any :: .any :: .any :: .any :: .any :: .any :: .any :: .any :: .any :: .any :: .any :: .any :: .any :: .any :: .any :: .any :: .any :: .any :: .any :: .any :: .any :: .any :: .any :: .any :: .any :: .any :: .any :: .any :: .any :: .any :: .any :: .any :: .any :: [])) ?_ ?_
      · have gt2 := g2
        have hE := fun σ' => mencI_ok σ' hw
        by_cases hm : ¬ mayM z
        · simp only [encM_no hm] at hE
          have dc20 : ((2 : Int) == 0) = false := rfl
          repeat (first | (with_reducible first | refine AW.seq ?_ | refine AW.block ?_ | refine AW.skip ?_ | refine AW.ret ?_ | refine AW.exit ?_ | refine AW.reg hT ?_) | ((with_reducible refine AW.cond_true ?_ ?_); · rfl) | ((with_reducible refine AW.cond_false ?_ ?_); · rfl) | simp (maxSteps := 3000000) (maxDischargeDepth := 12) only [seval,push_cast,appendX,Try.results3,meC,mgC,dcbl,dcb6,gt2,Heap.lt gt2,dc20])
          refine AOpsL.call (first := []) (cap := []) hT rfl rfl rfl fn10 rfl (ACalls.mono (theirs_ok _ z) ?_)
          rintro y σ3 ⟨rfl, xt3⟩
          repeat (first | (with_reducible first | refine AW.seq ?_ | refine AW.block ?_ | refine AW.skip ?_ | refine AW.ret ?_ | refine AW.exit ?_ | refine AW.reg hT ?_) | ((with_reducible refine AW.cond_true ?_ ?_); · rfl) | ((with_reducible refine AW.cond_false ?_ ?_); · rfl) | simp (maxSteps := 3000000) (maxDischargeDepth := 12) only [seval,push_cast,appendX,Try.results3,dcbl,dcb6,gt2,Heap.lt gt2,dc20,xt3.2,xt3.ltT,xt3.leT])
          refine AOpsL.call (first := []) (cap := []) hT rfl rfl rfl fn9 rfl (ACalls.mono (hE _) ?_)
          rintro y σ4 ⟨rfl, xt4⟩
          repeat (first | (with_reducible first | refine AW.seq ?_ | refine AW.block ?_ | refine AW.skip ?_ | refine AW.ret ?_ | refine AW.exit ?_ | refine AW.reg hT ?_) | ((with_reducible refine AW.cond_true ?_ ?_); · rfl) | ((with_reducible refine AW.cond_false ?_ ?_); · rfl) | simp (maxSteps := 3000000) (maxDischargeDepth := 12) only [seval,push_cast,appendX,Try.results3,dcbl,dcb6,gt2,Heap.lt gt2,dc20,xt3.2,xt3.ltT,xt3.leT,xt4.2,xt4.ltT,xt4.leT])
          (simp only [push_cast, TellsL, tells_any, tells_refl])
        · have hm := Decidable.not_not.1 hm
          simp only [encM_yes hm] at hE
          have hsl := sealM_len z
          have hob := objs_may hm.2.2.2.2.1
          have hD := fun σ' => mdec_ok σ' (sealM_octs hm) (by have := hob.2.2.1; omega)
          simp only [decM_sealM hm] at hD
          repeat (first | (with_reducible first | refine AW.seq ?_ | refine AW.block ?_ | refine AW.skip ?_ | refine AW.ret ?_ | refine AW.exit ?_ | refine AW.reg hT ?_) | ((with_reducible refine AW.cond_true ?_ ?_); · rfl) | ((with_reducible refine AW.cond_false ?_ ?_); · rfl) | simp (maxSteps := 3000000) (maxDischargeDepth := 12) only [seval,push_cast,appendX,Try.results3,meC,mgC,dcbl,dcb6,gt2,Heap.lt gt2])
          refine AOpsL.call (first := []) (cap := []) hT rfl rfl rfl fn10 rfl (ACalls.mono (theirs_ok _ z) ?_)
          rintro y σ3 ⟨rfl, xt3⟩
          have gt3 := xt3.get gt2 (by simp)
          clear xt3 gt2
          repeat (first | (with_reducible first | refine AW.seq ?_ | refine AW.block ?_ | refine AW.skip ?_ | refine AW.ret ?_ | refine AW.exit ?_ | refine AW.reg hT ?_) | ((with_reducible refine AW.cond_true ?_ ?_); · rfl) | ((with_reducible refine AW.cond_false ?_ ?_); · rfl) | simp (maxSteps := 3000000) (maxDischargeDepth := 12) only [seval,push_cast,appendX,Try.results3,dcbl,dcb6,gt3,Heap.lt gt3])
          refine AOpsL.call (first := []) (cap := []) hT rfl rfl rfl fn9 rfl (ACalls.mono (hE _) ?_)
          rintro y σ4 ⟨rfl, xt4⟩
          have gt4 := xt4.get gt3 (by simp)
          clear xt4 gt3
          repeat (first | (with_reducible first | refine AW.seq ?_ | refine AW.block ?_ | refine AW.skip ?_ | refine AW.ret ?_ | refine AW.exit ?_ | refine AW.reg hT ?_) | ((with_reducible refine AW.cond_true ?_ ?_); · rfl) | ((with_reducible refine AW.cond_false ?_ ?_); · rfl) | simp (maxSteps := 3000000) (maxDischargeDepth := 12) only [seval,push_cast,appendX,Try.results3,dcbl,dcb6,gt4,Heap.lt gt4])
          refine AOpsL.call (first := []) (cap := []) hT rfl rfl rfl fn11 rfl (ACalls.mono (hD _) ?_)
          rintro y σ5 ⟨rfl, xt5⟩
          have gt5 := xt5.get gt4 (by simp)
          clear xt5 gt4
          repeat (first | (with_reducible first | refine AW.seq ?_ | refine AW.block ?_ | refine AW.skip ?_ | refine AW.ret ?_ | refine AW.exit ?_ | refine AW.reg hT ?_) | ((with_reducible show AW _ (.region 8 _ _) _ _ _); (with_reducible refine AW.drawn (id := 8) hT [0,1,2,3,5,4,6,7,8] [[],[0],[0,1],[0,1,2],[0,1,2,3],[0,1,2],[0,1,2,3,4,5],[0,1,2,3,4,5,6],[0,1,2,3,4,5,6,7]] mix (by kernel_rfl) ?_)) | ((with_reducible show DLeft _ _ _ _ (_ :: _) _ _ _ _); (with_reducible apply DLeft.step hT); (case hoi => ((simp only [List.getElem?_toArray,List.getElem?_cons_zero,List.getElem?_cons_succ]); with_reducible rfl)); (case hg => rfl); (case hk => rfl); (case hr => ((try simp (maxSteps := 3000000) (maxDischargeDepth := 12) only [seval,push_cast,appendX,Try.results3,meC,mgC,dcbl,dcb6,gt5,Heap.lt gt5]); with_reducible rfl))) | ((with_reducible refine AW.cond_true ?_ ?_); · rfl) | ((with_reducible refine AW.cond_false ?_ ?_); · rfl) | simp (maxSteps := 3000000) (maxDischargeDepth := 12) only [seval,push_cast,appendX,Try.results3,meC,mgC,dcbl,dcb6,gt5,Heap.lt gt5])
          ((apply DLeft.call (f := 13) (first := []) (cap := [])); (case hoi => ((simp only [List.getElem?_toArray, List.getElem?_cons_zero, List.getElem?_cons_succ]); with_reducible rfl)); (case hg => rfl); (case ho => rfl); (case hc => rfl); (case hf => exact fn13); (case has => rfl)); refine ACalls.mono (ours_ok _ z) ?_
          rintro y σ6 ⟨rfl, xt6⟩
          repeat (first | (with_reducible first | refine AW.seq ?_ | refine AW.block ?_ | refine AW.skip ?_ | refine AW.ret ?_ | refine AW.exit ?_ | refine AW.reg hT ?_) | ((with_reducible show AW _ (.region 8 _ _) _ _ _); (with_reducible refine AW.drawn (id := 8) hT [0,1,2,3,5,4,6,7,8] [[],[0],[0,1],[0,1,2],[0,1,2,3],[0,1,2],[0,1,2,3,4,5],[0,1,2,3,4,5,6],[0,1,2,3,4,5,6,7]] mix (by kernel_rfl) ?_)) | ((with_reducible show DLeft _ _ _ _ (_ :: _) _ _ _ _); (with_reducible apply DLeft.step hT); (case hoi => ((simp only [List.getElem?_toArray,List.getElem?_cons_zero,List.getElem?_cons_succ]); with_reducible rfl)); (case hg => rfl); (case hk => rfl); (case hr => ((try simp (maxSteps := 3000000) (maxDischargeDepth := 12) only [seval,push_cast,appendX,Try.results3,meC,mgC,dcbl,dcb6,gt5,Heap.lt gt5,xt6.2,xt6.ltT,xt6.leT]); with_reducible rfl))) | ((with_reducible refine AW.cond_true ?_ ?_); · rfl) | ((with_reducible refine AW.cond_false ?_ ?_); · rfl) | simp (maxSteps := 3000000) (maxDischargeDepth := 12) only [seval,push_cast,appendX,Try.results3,meC,mgC,dcbl,dcb6,gt5,Heap.lt gt5,xt6.2,xt6.ltT,xt6.leT])
          ((apply DLeft.call (f := 12) (first := []) (cap := [])); (case hoi => ((simp only [List.getElem?_toArray, List.getElem?_cons_zero, List.getElem?_cons_succ]); with_reducible rfl)); (case hg => rfl); (case ho => rfl); (case hc => rfl); (case hf => exact fn12); (case has => rfl)); refine ACalls.mono (rSame_ok _ (a := z) (b := z) (by omega) (by omega)) ?_
          rintro y σ7 ⟨xt7, t, rfl, ht⟩
          have ht := ht.2 rfl
          subst ht
          repeat (first | (with_reducible first | refine AW.seq ?_ | refine AW.block ?_ | refine AW.skip ?_ | refine AW.ret ?_ | refine AW.exit ?_ | refine AW.reg hT ?_) | ((with_reducible show AW _ (.region 8 _ _) _ _ _); (with_reducible refine AW.drawn (id := 8) hT [0,1,2,3,5,4,6,7,8] [[],[0],[0,1],[0,1,2],[0,1,2,3],[0,1,2],[0,1,2,3,4,5],[0,1,2,3,4,5,6],[0,1,2,3,4,5,6,7]] mix (by kernel_rfl) ?_)) | ((with_reducible show DLeft _ _ _ _ (_ :: _) _ _ _ _); (with_reducible apply DLeft.step hT); (case hoi => ((simp only [List.getElem?_toArray,List.getElem?_cons_zero,List.getElem?_cons_succ]); with_reducible rfl)); (case hg => rfl); (case hk => rfl); (case hr => ((try simp (maxSteps := 3000000) (maxDischargeDepth := 12) only [seval,push_cast,appendX,Try.results3,dcbl,dcb6,gt5,Heap.lt gt5,xt6.2,xt6.ltT,xt6.leT,xt7.2,xt7.ltT,xt7.leT]); with_reducible rfl))) | ((with_reducible refine AW.cond_true ?_ ?_); · rfl) | ((with_reducible refine AW.cond_false ?_ ?_); · rfl) | simp (maxSteps := 3000000) (maxDischargeDepth := 12) only [seval,push_cast,appendX,Try.results3,dcbl,dcb6,gt5,Heap.lt gt5,xt6.2,xt6.ltT,xt6.leT,xt7.2,xt7.ltT,xt7.leT])
          (simp only [push_cast, TellsL, tells_any, tells_refl])
      · rintro ts σ3 hts
        refine AW.told hts ?_
        clear hts
        have hD := fun σ' => mdec_ok σ' ho (by omega)
        repeat (first | (with_reducible first | refine AW.seq ?_ | refine AW.block ?_ | refine AW.skip ?_ | refine AW.ret ?_ | refine AW.exit ?_ | refine AW.reg hT ?_) | ((with_reducible refine AW.cond_true ?_ ?_); · rfl) | ((with_reducible refine AW.cond_false ?_ ?_); · rfl) | simp (maxSteps := 3000000) (maxDischargeDepth := 12) only [seval,push_cast,appendX,Try.results3,dcbl,dcb6])
        refine AOpsL.call (first := []) (cap := []) hT rfl rfl rfl fn11 rfl (ACalls.mono (hD _) ?_)
        rintro y σ4 ⟨rfl, xt4⟩
        clear hD
        by_cases he : ¬ (decM b).2 = 0
        · have dce : ((decM b).2 == 0) = false := by simpa using he
          repeat (first | (with_reducible first | refine AW.seq ?_ | refine AW.block ?_ | refine AW.skip ?_ | refine AW.ret ?_ | refine AW.exit ?_ | refine AW.reg hT ?_) | ((with_reducible refine AW.cond_true ?_ ?_); · rfl) | ((with_reducible refine AW.cond_false ?_ ?_); · rfl) | simp (maxSteps := 3000000) (maxDischargeDepth := 12) only [seval,push_cast,appendX,Try.results3,meC,mgC,dcbl,dcb6,xt4.2,xt4.ltT,xt4.leT,dce])
        · have he := Decidable.not_not.1 he
          have hd : decM b = ((decM b).1, 0) := by rw [← he]
          have hww := decM_wf ho hd
          obtain ⟨hmw, hsb, _⟩ := decM_ok hd
          revert hww hmw hsb
          rw [he]
          generalize (decM b).1 = w
          intro hww hmw hsb
          have hE := fun σ' => mencI_ok σ' hww
          simp only [encM_yes hmw, hsb] at hE
          have dcst : ((strOfNums b).toList == (strOfNums b).toList) = true := by simp
          repeat (first | (with_reducible first | refine AW.seq ?_ | refine AW.block ?_ | refine AW.skip ?_ | refine AW.ret ?_ | refine AW.exit ?_ | refine AW.reg hT ?_) | ((with_reducible refine AW.cond_true ?_ ?_); · rfl) | ((with_reducible refine AW.cond_false ?_ ?_); · rfl) | simp (maxSteps := 3000000) (maxDischargeDepth := 12) only [seval,push_cast,appendX,Try.results3,meC,mgC,dcbl,dcb6,xt4.2,xt4.ltT,xt4.leT,dcst])
          refine AOpsL.call (first := []) (cap := []) hT rfl rfl rfl fn9 rfl (ACalls.mono (hE _) ?_)
          rintro y σ5 ⟨rfl, xt5⟩
          repeat (first | (with_reducible first | refine AW.seq ?_ | refine AW.block ?_ | refine AW.skip ?_ | refine AW.ret ?_ | refine AW.exit ?_ | refine AW.reg hT ?_) | ((with_reducible refine AW.cond_true ?_ ?_); · rfl) | ((with_reducible refine AW.cond_false ?_ ?_); · rfl) | simp (maxSteps := 3000000) (maxDischargeDepth := 12) only [seval,push_cast,appendX,Try.results3,dcbl,dcb6,xt4.2,xt4.ltT,xt4.leT,dcst,xt5.2,xt5.ltT,xt5.leT])
theorem back_ok (x : Ms) (b : List Int) (h : wM x) (hb : b.length ≤ maxLen ∧ ∀ y ∈ b, (Lit.int .u8 y).wf = true) (hy : b.length * 1 ≤ 140737488351232) : ACalls Try.prog 3 [.agg (eM x), .imm (b.map (fun n : Int => [DV.sc (.int .u8 n)]))] ⟨[]⟩ (fun y _ => y = .sc (.bool true)) := by
  rw [eM_eq]
  exact backZ _ (fun hf => wM_wf h hf.1 hf.2) (octs_wf hb.2)
end Go.Proofs.Ytgbeiiajgmfklaa.Cm
