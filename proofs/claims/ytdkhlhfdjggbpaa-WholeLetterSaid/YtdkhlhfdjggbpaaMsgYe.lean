/- Package message: May, Encode. Package message: Decode. -/
import Derived.Test.YtdkhlhfdjggbpaaMsgYd
import Derived.Test.YtdkhlhfdjggbpaaMsgYp
import Derived.Test.YtdkhlhfdjggbpaaMsgYo
namespace Go.Proofs.Ytdkhlhfdjggbpaa.Cm
open Go.RowKit
set_option linter.unusedVariables false
set_option linter.unusedSimpArgs false
set_option maxRecDepth 20000
set_option maxHeartbeats 8000000
theorem laid_any (σ : Heap) {z : Me} (hw : z.Wf) (hpe : perOk z.m.per) (hse : perOk z.m.ser) : ∃ (y2 : List (List DV)) (z2 : Me) (b : Bool), ACalls Try.prog 20 [.agg (meC z)] σ (fun y σ' => y = .tup [.imm y2, .agg (meC z2), .sc (.bool b)] ∧ Ext [] σ σ') ∧ ((b = true ∧ z = z2) ↔ (fieldsI z.m.ty ≠ [] ∧ mayAll z ∧ z = againI z)) := by
  by_cases hm : mayAll z
  · exact ⟨(objsM z).map eO, againI z, decide (fieldsI z.m.ty ≠ []), laid_yes σ hw hpe hse hm, by simp [hm]⟩
  · exact ⟨[], mz 0 0, false, laid_no σ hw hpe hse hm, by simp [hm]⟩
open Classical in
theorem mmay_ok (σ : Heap) {z : Me} (hw : z.Wf) : ACalls Try.prog 19 [.agg (meC z)] σ (fun y σ' => y = .sc (.bool (decide (mayM z))) ∧ Ext [] σ σ') := by
  have hper := hw.2.2.2.2.2.2.2.1
  have hser := hw.2.2.2.2.2.2.2.2.1
  have hrt := hw.2.2.2.2.2.2.2.2.2.2.2.2.2.2.2.2.2.2.1
  have hrc := hw.2.2.2.2.2.2.2.2.2.2.2.2.2.2.2.2.2.2.2
  have hbad : ¬ ((0 ≤ z.m.ttl ∧ z.m.ttl ≤ 255) ∧ 0 ≤ z.m.per ∧ 0 ≤ z.m.ser) → decide (mayM z) = false := fun h => decide_eq_false (fun hm => h ⟨hm.1, hm.2.1, hm.2.2.1⟩)
  simp only [meC, mgC]
  refine ACalls.code hT Try.func19 rfl ?_
  simp only [Try.ntmps19, List.length_cons, List.length_nil, Nat.reduceSub, Nat.reduceAdd, List.replicate, List.cons_append, List.nil_append]
  by_cases hA0 : z.m.ttl < 0
  · have dcA0 : decide (z.m.ttl < 0) = true := by simpa using hA0
    repeat (first | (with_reducible first | refine AW.seq ?_ | refine AW.block ?_ | refine AW.skip ?_ | refine AW.ret ?_ | refine AW.exit ?_ | refine AW.reg hT ?_) | ((with_reducible refine AW.cond_true ?_ ?_); · rfl) | ((with_reducible refine AW.cond_false ?_ ?_); · rfl) | simp (maxSteps := 3000000) (maxDischargeDepth := 12) only [seval,push_cast,appendX,Try.results19,dcA0])
    exact ⟨by rw [hbad (by omega)], by repeat (first | exact Ext.refl _ _ | assumption | refine Ext.push ?_ _ | ((refine Ext.set ?_ ?_ _); rotate_left; · (simp (maxSteps := 3000000) (maxDischargeDepth := 12) only [push_cast, appendX, Nat.reduceAdd, Nat.reduceEqDiff, Nat.reduceLT, Nat.reduceLeDiff, reduceIte, reduceCtorEq, dcA0])) | ((refine Ext.then1 (by assumption) ?_ ?_); rotate_left; · (intro p hp _; first | assumption | exact List.mem_cons_of_mem _ hp | (cases hp; done) | (simp at hp; subst hp; simp))))⟩
  · have dcA0 : decide (z.m.ttl < 0) = false := by simpa using hA0
    by_cases hA1 : 255 < z.m.ttl
    · have dcA1 : decide (255 < z.m.ttl) = true := by simpa using hA1
      repeat (first | (with_reducible first | refine AW.seq ?_ | refine AW.block ?_ | refine AW.skip ?_ | refine AW.ret ?_ | refine AW.exit ?_ | refine AW.reg hT ?_) | ((with_reducible refine AW.cond_true ?_ ?_); · rfl) | ((with_reducible refine AW.cond_false ?_ ?_); · rfl) | simp (maxSteps := 3000000) (maxDischargeDepth := 12) only [seval,push_cast,appendX,Try.results19,dcA0,dcA1])
      exact ⟨by rw [hbad (by omega)], by repeat (first | exact Ext.refl _ _ | assumption | refine Ext.push ?_ _ | ((refine Ext.set ?_ ?_ _); rotate_left; · (simp (maxSteps := 3000000) (maxDischargeDepth := 12) only [push_cast, appendX, Nat.reduceAdd, Nat.reduceEqDiff, Nat.reduceLT, Nat.reduceLeDiff, reduceIte, reduceCtorEq, dcA0, dcA1])) | ((refine Ext.then1 (by assumption) ?_ ?_); rotate_left; · (intro p hp _; first | assumption | exact List.mem_cons_of_mem _ hp | (cases hp; done) | (simp at hp; subst hp; simp))))⟩
    · have dcA1 : decide (255 < z.m.ttl) = false := by simpa using hA1
      by_cases hA2 : z.m.per < 0
      · have dcA2 : decide (z.m.per < 0) = true := by simpa using hA2
        repeat (first | (with_reducible first | refine AW.seq ?_ | refine AW.block ?_ | refine AW.skip ?_ | refine AW.ret ?_ | refine AW.exit ?_ | refine AW.reg hT ?_) | ((with_reducible refine AW.cond_true ?_ ?_); · rfl) | ((with_reducible refine AW.cond_false ?_ ?_); · rfl) | simp (maxSteps := 3000000) (maxDischargeDepth := 12) only [seval,push_cast,appendX,Try.results19,dcA0,dcA1,dcA2])
        exact ⟨by rw [hbad (by omega)], by repeat (first | exact Ext.refl _ _ | assumption | refine Ext.push ?_ _ | ((refine Ext.set ?_ ?_ _); rotate_left; · (simp (maxSteps := 3000000) (maxDischargeDepth := 12) only [push_cast, appendX, Nat.reduceAdd, Nat.reduceEqDiff, Nat.reduceLT, Nat.reduceLeDiff, reduceIte, reduceCtorEq, dcA0, dcA1, dcA2])) | ((refine Ext.then1 (by assumption) ?_ ?_); rotate_left; · (intro p hp _; first | assumption | exact List.mem_cons_of_mem _ hp | (cases hp; done) | (simp at hp; subst hp; simp))))⟩
      · have dcA2 : decide (z.m.per < 0) = false := by simpa using hA2
        by_cases hA3 : z.m.ser < 0
        · have dcA3 : decide (z.m.ser < 0) = true := by simpa using hA3
          repeat (first | (with_reducible first | refine AW.seq ?_ | refine AW.block ?_ | refine AW.skip ?_ | refine AW.ret ?_ | refine AW.exit ?_ | refine AW.reg hT ?_) | ((with_reducible refine AW.cond_true ?_ ?_); · rfl) | ((with_reducible refine AW.cond_false ?_ ?_); · rfl) | simp (maxSteps := 3000000) (maxDischargeDepth := 12) only [seval,push_cast,appendX,Try.results19,dcA0,dcA1,dcA2,dcA3])
          exact ⟨by rw [hbad (by omega)], by repeat (first | exact Ext.refl _ _ | assumption | refine Ext.push ?_ _ | ((refine Ext.set ?_ ?_ _); rotate_left; · (simp (maxSteps := 3000000) (maxDischargeDepth := 12) only [push_cast, appendX, Nat.reduceAdd, Nat.reduceEqDiff, Nat.reduceLT, Nat.reduceLeDiff, reduceIte, reduceCtorEq, dcA0, dcA1, dcA2, dcA3])) | ((refine Ext.then1 (by assumption) ?_ ?_); rotate_left; · (intro p hp _; first | assumption | exact List.mem_cons_of_mem _ hp | (cases hp; done) | (simp at hp; subst hp; simp))))⟩
        · have dcA3 : decide (z.m.ser < 0) = false := by simpa using hA3
          obtain ⟨y2, z2, b, hl, hb⟩ := laid_any (σ.push (MeO z)) hw ⟨by omega, hper.2⟩ ⟨by omega, hser.2⟩
          have hiff : mayM z ↔ (b = true ∧ z = z2) := by
            rw [hb]
            exact ⟨fun h => ⟨h.2.2.2.1, h.2.2.2.2.1, h.2.2.2.2.2⟩, fun h => ⟨⟨by omega, by omega⟩, by omega, by omega, h.1, h.2.1, h.2.2⟩⟩
          clear hb
          repeat (first | (with_reducible first | refine AW.seq ?_ | refine AW.block ?_ | refine AW.skip ?_ | refine AW.ret ?_ | refine AW.exit ?_ | refine AW.reg hT ?_) | ((with_reducible refine AW.cond_true ?_ ?_); · rfl) | ((with_reducible refine AW.cond_false ?_ ?_); · rfl) | simp (maxSteps := 3000000) (maxDischargeDepth := 12) only [seval,push_cast,appendX,Try.results19,dcA0,dcA1,dcA2,dcA3])
          refine AOpsL.call (first := []) (cap := []) hT rfl rfl rfl fn20 rfl (ACalls.mono (hl) ?_)
          rintro y σ2 ⟨rfl, xt2⟩
          have gtz2 : σ2.get σ.n = some (MeO z) := xt2.get (by simp (maxSteps := 3000000) (maxDischargeDepth := 12) only [push_cast, appendX, Nat.reduceAdd, Nat.reduceEqDiff, Nat.reduceLT, Nat.reduceLeDiff, reduceIte, reduceCtorEq, MeO, MgO, mgC, dcA0, dcA1, dcA2, dcA3, xt2.2, xt2.ltT, xt2.leT]) (by simp)
          have xt02 : Ext [] σ σ2 := ((Ext.refl [] σ).push (MeO z)).trans xt2
          clear xt2 hl
          cases b with
          | false =>
            repeat (first | (with_reducible first | refine AW.seq ?_ | refine AW.block ?_ | refine AW.skip ?_ | refine AW.ret ?_ | refine AW.exit ?_ | refine AW.reg hT ?_) | ((with_reducible refine AW.cond_true ?_ ?_); · rfl) | ((with_reducible refine AW.cond_false ?_ ?_); · rfl) | simp (maxSteps := 3000000) (maxDischargeDepth := 12) only [seval,push_cast,appendX,Try.results19,meC,mgC,dcA0,dcA1,dcA2,dcA3,gtz2,Heap.lt gtz2,xt02.2,xt02.ltT,xt02.leT])
            exact ⟨by rw [decide_eq_false (fun h => by have := (hiff.1 h).1; cases this)], by repeat (first | exact Ext.refl _ _ | assumption | refine Ext.push ?_ _ | ((refine Ext.set ?_ ?_ _); rotate_left; · (simp (maxSteps := 3000000) (maxDischargeDepth := 12) only [push_cast, appendX, Nat.reduceAdd, Nat.reduceEqDiff, Nat.reduceLT, Nat.reduceLeDiff, reduceIte, reduceCtorEq, dcA0, dcA1, dcA2, dcA3, gtz2, Heap.lt gtz2, xt02.2, xt02.ltT, xt02.leT])) | ((refine Ext.then1 (by assumption) ?_ ?_); rotate_left; · (intro p hp _; first | assumption | exact List.mem_cons_of_mem _ hp | (cases hp; done) | (simp at hp; subst hp; simp))))⟩
          | true =>
            repeat (first | (with_reducible first | refine AW.seq ?_ | refine AW.block ?_ | refine AW.skip ?_ | refine AW.ret ?_ | refine AW.exit ?_ | refine AW.reg hT ?_) | ((with_reducible refine AW.cond_true ?_ ?_); · rfl) | ((with_reducible refine AW.cond_false ?_ ?_); · rfl) | simp (maxSteps := 3000000) (maxDischargeDepth := 12) only [seval,push_cast,appendX,Try.results19,meC,MeO,MgO,mgC,dcA0,dcA1,dcA2,dcA3,gtz2,Heap.lt gtz2,xt02.2,xt02.ltT,xt02.leT])
            refine AOpsL.call (first := []) (cap := []) hT rfl rfl rfl fn31 rfl (ACalls.mono (msame_ok _ (a := z) (b := z2) hrt hrc) ?_)
            rintro y σ3 ⟨xt3, t, rfl, ht⟩
            repeat (first | (with_reducible first | refine AW.seq ?_ | refine AW.block ?_ | refine AW.skip ?_ | refine AW.ret ?_ | refine AW.exit ?_ | refine AW.reg hT ?_) | ((with_reducible refine AW.cond_true ?_ ?_); · rfl) | ((with_reducible refine AW.cond_false ?_ ?_); · rfl) | simp (maxSteps := 3000000) (maxDischargeDepth := 12) only [seval,push_cast,appendX,Try.results19,dcA0,dcA1,dcA2,dcA3,gtz2,Heap.lt gtz2,xt02.2,xt02.ltT,xt02.leT,xt3.2,xt3.ltT,xt3.leT])
            refine ⟨?_, by repeat (first | exact Ext.refl _ _ | assumption | refine Ext.push ?_ _ | ((refine Ext.set ?_ ?_ _); rotate_left; · (simp (maxSteps := 3000000) (maxDischargeDepth := 12) only [push_cast, appendX, Nat.reduceAdd, Nat.reduceEqDiff, Nat.reduceLT, Nat.reduceLeDiff, reduceIte, reduceCtorEq, dcA0, dcA1, dcA2, dcA3, gtz2, Heap.lt gtz2, xt02.2, xt02.ltT, xt02.leT, xt3.2, xt3.ltT, xt3.leT])) | ((refine Ext.then1 (by assumption) ?_ ?_); rotate_left; · (intro p hp _; first | assumption | exact List.mem_cons_of_mem _ hp | (cases hp; done) | (simp at hp; subst hp; simp))))⟩
            congr 2
            rw [Bool.eq_iff_iff, ht, decide_eq_true_iff, hiff]
            simp
theorem encM_yes {z : Me} (h : mayM z) : encM z = (sealM z, 0) := by rw [encM, if_pos h]
theorem encM_no {z : Me} (h : ¬ mayM z) : encM z = ([], 2) := by rw [encM, if_neg h]
open Classical in
theorem menc_ok (σ : Heap) {z : Me} (hw : z.Wf) : ACalls Try.prog 8 [.agg (meC z)] σ (fun y σ' => Ext [] σ σ' ∧ ∃ d, y = .tup [d, .sc (.int .i64 (encM z).2)] ∧ Hold σ' d 5 (bytesD (encM z).1) ∧ (∀ q ∈ tOf d, σ.n ≤ q)) := by
  have hmm := mmay_ok (σ.push (MeO z)) hw
  simp only [meC, mgC]
  refine ACalls.code hT Try.func8 rfl ?_
  simp only [Try.ntmps8, List.length_cons, List.length_nil, Nat.reduceSub, Nat.reduceAdd, List.replicate, List.cons_append, List.nil_append]
  by_cases hm : mayM z
  · rw [decide_eq_true hm] at hmm
    rw [encM_yes hm]
    have hob := objs_may hm.2.2.2.2.1
    have hen := enc_objs hm.2.2.2.2.1
    have hty := mayM_ty hm
    have hpo := pre_octs hm
    have hla := fun σ1 => laid_yes σ1 hw ⟨hm.2.1, hw.2.2.2.2.2.2.2.1.2⟩ ⟨hm.2.2.1, hw.2.2.2.2.2.2.2.2.1.2⟩ hm.2.2.2.2.1
    repeat (first | (with_reducible first | refine AW.seq ?_ | refine AW.block ?_ | refine AW.skip ?_ | refine AW.ret ?_ | refine AW.exit ?_ | refine AW.reg hT ?_) | ((with_reducible refine AW.cond_true ?_ ?_); · rfl) | ((with_reducible refine AW.cond_false ?_ ?_); · rfl) | simp (maxSteps := 3000000) (maxDischargeDepth := 12) only [seval,push_cast,appendX,Try.results8])
    refine AOpsL.call (first := []) (cap := []) hT rfl rfl rfl fn19 rfl (ACalls.mono (hmm) ?_)
    rintro y σ2 ⟨rfl, xt2⟩
    have gtz2 : σ2.get σ.n = some (MeO z) := xt2.get (by simp (maxSteps := 3000000) (maxDischargeDepth := 12) only [push_cast, appendX, Nat.reduceAdd, Nat.reduceEqDiff, Nat.reduceLT, Nat.reduceLeDiff, reduceIte, reduceCtorEq, MeO, MgO, mgC, xt2.2, xt2.ltT, xt2.leT]) (by simp)
    have xt02 : Ext [] σ σ2 := ((Ext.refl [] σ).push (MeO z)).trans xt2
    clear xt2 hmm
    repeat (first | (with_reducible first | refine AW.seq ?_ | refine AW.block ?_ | refine AW.skip ?_ | refine AW.ret ?_ | refine AW.exit ?_ | refine AW.reg hT ?_) | ((with_reducible refine AW.cond_true ?_ ?_); · rfl) | ((with_reducible refine AW.cond_false ?_ ?_); · rfl) | simp (maxSteps := 3000000) (maxDischargeDepth := 12) only [seval,push_cast,appendX,Try.results8,MeO,MgO,mgC,gtz2,Heap.lt gtz2,xt02.2,xt02.ltT,xt02.leT])
    refine AOpsL.call (first := []) (cap := []) hT rfl rfl rfl fn20 rfl (ACalls.mono (hla _) ?_)
    rintro y σ3 ⟨rfl, xt3⟩
    have gtz3 := xt3.get gtz2 (by simp)
    have xt03 := xt02.trans xt3
    clear gtz2 xt02 xt3
    have hln : (objsM z).length ≤ 1000000 := by have := hob.2.1; omega
    repeat ((fail_if_success (with_reducible refine AW.at1 (id := 4) ?_)); (fail_if_success (with_reducible refine AW.at2 (id := 4) ?_)); first | (with_reducible first | refine AW.seq ?_ | refine AW.block ?_ | refine AW.skip ?_ | refine AW.ret ?_ | refine AW.exit ?_ | refine AW.reg hT ?_) | ((with_reducible refine AW.cond_true ?_ ?_); · rfl) | ((with_reducible refine AW.cond_false ?_ ?_); · rfl) | simp (maxSteps := 3000000) (maxDischargeDepth := 12) only [seval,push_cast,appendX,Try.results8,meC,mgC,gtz3,Heap.lt gtz3,xt03.2,xt03.ltT,xt03.leT])
    refine AW.name (fun σ5 hσ5 => ?_)
    have gz5 : σ5.get σ.n = some (MeO z) := by subst hσ5; simp (maxSteps := 3000000) (maxDischargeDepth := 12) only [push_cast, appendX, Nat.reduceAdd, Nat.reduceEqDiff, Nat.reduceLT, Nat.reduceLeDiff, reduceIte, reduceCtorEq, MeO, MgO, mgC, gtz3, Heap.lt gtz3, xt03.2, xt03.ltT, xt03.leT]
    have xx05 : Ext [] σ σ5 := by subst hσ5; repeat (first | exact Ext.refl _ _ | assumption | refine Ext.push ?_ _ | ((refine Ext.set ?_ ?_ _); rotate_left; · (simp (maxSteps := 3000000) (maxDischargeDepth := 12) only [push_cast, appendX, Nat.reduceAdd, Nat.reduceEqDiff, Nat.reduceLT, Nat.reduceLeDiff, reduceIte, reduceCtorEq, gtz3, Heap.lt gtz3, xt03.2, xt03.ltT, xt03.leT])) | ((refine Ext.then1 (by assumption) ?_ ?_); rotate_left; · (intro p hp _; first | assumption | exact List.mem_cons_of_mem _ hp | (cases hp; done) | (simp at hp; subst hp; simp))))
    clear hσ5 gtz3 xt03 hla
    have gtz5 := gz5
    have xt05 := xx05
    repeat (first | (with_reducible first | refine AW.seq ?_ | refine AW.block ?_ | refine AW.skip ?_ | refine AW.ret ?_ | refine AW.exit ?_ | refine AW.reg hT ?_) | ((with_reducible refine AW.cond_true ?_ ?_); · rfl) | ((with_reducible refine AW.cond_false ?_ ?_); · rfl) | simp (maxSteps := 3000000) (maxDischargeDepth := 12) only [seval,push_cast,appendX,Try.results8,gtz5,Heap.lt gtz5,xt05.2,xt05.ltT,xt05.leT])
    refine AOpsL.call (first := []) (cap := []) hT rfl rfl rfl fn21 rfl (ACalls.mono (encode_ok _ (objsM z) hln) ?_)
    rw [hen]
    rintro y σ4 ⟨rfl, xt4⟩
    have gtz4 := xt4.get gtz5 (by simp)
    have xt04 := xt05.trans xt4
    clear gtz5 gz5 xx05 xt05 xt4 hen
    have hhd : headM z = [z.m.ttl, 0] ++ digits 2 (8 + ((obsB (objsM z)).length : Int)) ++ obsB (objsM z) := rfl
    have hsM : sealM z = sealB 16 z.m.ty (headM z) := rfl
    rw [hsM]
    have hhl : (headM z).length = (obsB (objsM z)).length + 4 := headM_len z
    revert hob hhd hhl
    generalize obsB (objsM z) = ob
    intro hob hhd hhl
    have dcw1 : IntKind.u8.wrap z.m.ty = z.m.ty := wrap_u8 (by omega) (by omega)
    have dcw2 : IntKind.u8.wrap z.m.ttl = z.m.ttl := wrap_u8 hm.1.1 (by have := hm.1.2; omega)
    have dcbl : (bytesD ob).length = ob.length := bytesD_length _
    have hob3 := hob.2.2.1
    have dcw3 : IntKind.i64.wrap (8 + (ob.length : Int)) = 8 + (ob.length : Int) := wrap_i64 (by omega) (by omega)
    have dcw4 : IntKind.u64.wrap (8 + (ob.length : Int)) = 8 + (ob.length : Int) := wrap_u64 (by omega) (by omega)
    have hH : Hold (σ4.push ⟨[[.sc (.int .u8 16)], [.sc (.int .u8 z.m.ty)], [.sc (.int .u8 0)], [.sc (.int .u8 0)], [.sc (.int .u8 z.m.ttl)], [.sc (.int .u8 0)]], 5, true⟩) (.sl σ4.n 0 6 6) 5 (bytesD [16, z.m.ty, 0, 0, z.m.ttl, 0]) := Hold.rowN Heap.get_push rfl
    repeat (first | (with_reducible first | refine AW.seq ?_ | refine AW.block ?_ | refine AW.skip ?_ | refine AW.ret ?_ | refine AW.exit ?_ | refine AW.reg hT ?_) | ((with_reducible refine AW.cond_true ?_ ?_); · rfl) | ((with_reducible refine AW.cond_false ?_ ?_); · rfl) | simp (maxSteps := 3000000) (maxDischargeDepth := 12) only [seval,push_cast,appendX,Try.results8,MeO,MgO,mgC,gtz4,Heap.lt gtz4,xt04.2,xt04.ltT,xt04.leT,dcw1,dcw2,dcbl,dcw3,dcw4])
    refine AOpsL.call (first := []) (cap := []) hT rfl rfl rfl fn22 rfl (ACalls.mono (put_ok _ _ [16, z.m.ty, 0, 0, z.m.ttl, 0] 2 (8 + (ob.length : Int)) hH.src (hold_len hH) (by simp) (by decide) (by decide) (by omega) (fun _ => by omega)) ?_)
    rintro y σ6 ⟨d6, rfl, hh6, hn6, xt6⟩
    have xt06 : Ext [] σ σ6 := (xt04.push _).trans xt6
    obtain ⟨d7, σ7, dnapp, hh7, hn7, xt7, he7⟩ := hh6.appM (σ0 := σ) (ty := 23) (x := .imm (bytesD ob)) (xs := bytesD ob) (fun q hq => by have := hn6 q hq; rw [Heap.n_push] at this; have := xt04.1; omega) xt06 rfl rfl (by decide) rfl (bytes_all _) (by simp only [List.length_append, bytesD_length, digits_length, List.length_cons, List.length_nil]; omega)
    have hform : bytesD ([16, z.m.ty, 0, 0, z.m.ttl, 0] ++ digits 2 (8 + (ob.length : Int))) ++ bytesD ob = bytesD (16 :: z.m.ty :: 0 :: 0 :: headM z) := by
      rw [← bytesD_append, hhd]; simp
    rw [hform] at hh7
    have dncl6 := hh6.cells
    have dnlf6 := hh6.leaf
    have dncl7 := hh7.cells
    have dnlf7 := hh7.leaf
    clear xt6 xt04 gtz4 hH
    repeat (first | (with_reducible first | refine AW.seq ?_ | refine AW.block ?_ | refine AW.skip ?_ | refine AW.ret ?_ | refine AW.exit ?_ | refine AW.reg hT ?_) | ((with_reducible refine AW.cond_true ?_ ?_); · rfl) | ((with_reducible refine AW.cond_false ?_ ?_); · rfl) | simp (maxSteps := 3000000) (maxDischargeDepth := 12) only [seval,push_cast,appendX,Try.results8,dcw1,dcw2,dcbl,dcw3,dcw4,xt06.2,xt06.ltT,xt06.leT,↓dnapp,xt7.2,xt7.ltT,xt7.leT,↓dncl6,↓dnlf6,↓dncl7,↓dnlf7])
    refine AOpsL.call (first := []) (cap := []) hT rfl rfl rfl fn23 rfl (ACalls.mono (seal_ok _ (octs_okB hpo) (by omega) (by omega) hh7.src (hold_len hh7)) ?_)
    rintro y σ8 ⟨xt8, d8, rfl, hh8, hn8⟩
    repeat (first | (with_reducible first | refine AW.seq ?_ | refine AW.block ?_ | refine AW.skip ?_ | refine AW.ret ?_ | refine AW.exit ?_ | refine AW.reg hT ?_) | ((with_reducible refine AW.cond_true ?_ ?_); · rfl) | ((with_reducible refine AW.cond_false ?_ ?_); · rfl) | simp (maxSteps := 3000000) (maxDischargeDepth := 12) only [seval,push_cast,appendX,Try.results8,dcw1,dcw2,dcbl,dcw3,dcw4,xt06.2,xt06.ltT,xt06.leT,↓dnapp,xt7.2,xt7.ltT,xt7.leT,↓dncl6,↓dnlf6,↓dncl7,↓dnlf7,xt8.2,xt8.ltT,xt8.leT])
    exact ⟨xt7.trans xt8, d8, rfl, hh8, fun q hq => by have := hn8 q hq; have := xt7.1; omega⟩
  · rw [decide_eq_false hm] at hmm
    rw [encM_no hm]
    repeat (first | (with_reducible first | refine AW.seq ?_ | refine AW.block ?_ | refine AW.skip ?_ | refine AW.ret ?_ | refine AW.exit ?_ | refine AW.reg hT ?_) | ((with_reducible refine AW.cond_true ?_ ?_); · rfl) | ((with_reducible refine AW.cond_false ?_ ?_); · rfl) | simp (maxSteps := 3000000) (maxDischargeDepth := 12) only [seval,push_cast,appendX,Try.results8])
    refine AOpsL.call (first := []) (cap := []) hT rfl rfl rfl fn19 rfl (ACalls.mono (hmm) ?_)
    rintro y σ2 ⟨rfl, xt2⟩
    repeat (first | (with_reducible first | refine AW.seq ?_ | refine AW.block ?_ | refine AW.skip ?_ | refine AW.ret ?_ | refine AW.exit ?_ | refine AW.reg hT ?_) | ((with_reducible refine AW.cond_true ?_ ?_); · rfl) | ((with_reducible refine AW.cond_false ?_ ?_); · rfl) | simp (maxSteps := 3000000) (maxDischargeDepth := 12) only [seval,push_cast,appendX,Try.results8,xt2.2,xt2.ltT,xt2.leT])
    exact ⟨by repeat (first | exact Ext.refl _ _ | assumption | refine Ext.push ?_ _ | ((refine Ext.set ?_ ?_ _); rotate_left; · (simp (maxSteps := 3000000) (maxDischargeDepth := 12) only [push_cast, appendX, Nat.reduceAdd, Nat.reduceEqDiff, Nat.reduceLT, Nat.reduceLeDiff, reduceIte, reduceCtorEq, xt2.2, xt2.ltT, xt2.leT])) | ((refine Ext.then1 (by assumption) ?_ ?_); rotate_left; · (intro p hp _; first | assumption | exact List.mem_cons_of_mem _ hp | (cases hp; done) | (simp at hp; subst hp; simp)))), _, rfl, Hold.nil _ _, by simp [tOf]⟩
theorem or_i64 {x y : Int} (hx : 0 ≤ x ∧ x < 256) (hy : 0 ≤ y ∧ y < 256) : Go.bits .or .i64 (x * 256) y = x * 256 + y := by
  obtain ⟨a, rfl⟩ := Int.eq_ofNat_of_zero_le hx.1
  obtain ⟨b, rfl⟩ := Int.eq_ofNat_of_zero_le hy.1
  have e : ((a : Int) * (256 : Int)) = ((a <<< 8 : Nat) : Int) := by rw [Nat.shiftLeft_eq]; omega
  have h1 : a <<< 8 < 65536 := by rw [Nat.shiftLeft_eq]; omega
  rw [e]
  show IntKind.i64.wrap ((BitVec.ofInt 64 ((a <<< 8 : Nat) : Int) ||| BitVec.ofInt 64 (b : Int)).toNat : Int) = _
  rw [BitVec.toNat_or, ofInt_u64 _ (by omega), ofInt_u64 b (by omega), ← Nat.shiftLeft_add_eq_or_of_lt (by omega : b < 2 ^ 8), wrap_i64 (by omega) (by omega)]
  omega
theorem u8_inv {n : Int} (h : 0 ≤ n ∧ n < 256) : ((UInt8.ofNat n.toNat).toNat : Int) = n := by
  simp [UInt8.toNat_ofNat']; omega
theorem str_eq {a b : List Int} (ha : Octs a) (hb : Octs b) : ((strOfNums a).toList == (strOfNums b).toList) = decide (a = b) := by
  rw [ByteArray.toList_eq, ByteArray.toList_eq, strOfNums_data, strOfNums_data]
  have inv : ∀ {l : List Int}, Octs l → (l.map fun n => UInt8.ofNat n.toNat).map (fun u => (u.toNat : Int)) = l := fun {l} hl => by
    rw [List.map_map]
    conv => rhs; rw [← List.map_id l]
    exact List.map_congr_left (fun n hn => u8_inv (hl n hn))
  by_cases h : a = b
  · subst h; simp
  · rw [decide_eq_false h]
    simp only [beq_eq_false_iff_ne, ne_eq]
    intro he
    have := congrArg (List.map fun u : UInt8 => (u.toNat : Int)) he
    rw [inv ha, inv hb] at this
    exact h this
theorem tellsErr (e : Int) : Tells (.tup [.agg (mgC (mz 0 0).m nilS nilS), .sc (.int .i64 e)]) (.tup [.agg (meC (mz 0 0)), .sc (.int .i64 e)]) := Tells.tup ⟨Tells.agg ⟨Tells.refl _, Tells.refl _, Tells.refl _, Tells.refl _, Tells.refl _, Tells.refl _, Tells.refl _, Tells.refl _, Tells.refl _, Tells.refl _, Tells.refl _, Tells.refl _, Tells.refl _, Tells.refl _, Tells.refl _, Tells.nil, Tells.nil, Tells.refl _, Tells.refl _, Tells.refl _, trivial⟩, Tells.refl _, trivial⟩
theorem mencI_ok (σ : Heap) {z : Me} (hw : z.Wf) : ACalls Try.prog 8 [.agg (meC z)] σ (fun y σ' => y = .tup [.imm (bytesD (encM z).1), .sc (.int .i64 (encM z).2)] ∧ Ext [] σ σ') :=
  toImmP (e := 5) ((menc_ok σ hw).mono (fun y σ' ⟨hx, d, h1, h2, h3⟩ => ⟨d, h1, h2, h3, hx⟩))
theorem may_u {x : Fs} {L : List Int} (hc : i64r x.cls) (h : mayI x L) (h5 : x.cls = 5 ∨ x.cls = 23) : 0 ≤ x.u ∧ x.u ≤ 4294967295 := by
  have hw := may_wf hc h
  refine ⟨hw.2.2.2.2.1.1, ?_⟩
  rcases h with ⟨h1, _⟩ | ⟨h1, _, h3, _⟩
  · rcases h1 with h1 | h1 <;> omega
  · unfold preB at h3
    rw [if_pos h1, if_pos h5] at h3
    simpa using h3
theorem dec_obs {r : List Int} (ho : Octs r) (h : (decO r).2 = 0) : (∀ x ∈ (decO r).1, mayO x ∧ Octs x.f2) ∧ (decO r).1.length ≤ 32 := by
  have h1 := back_dec ho h
  obtain ⟨h2, h3, h4, h5⟩ := encO_ok (l := (decO r).1) (by rw [h1])
  rw [h1] at h2
  have h6 : obsB (decO r).1 = r := ((Prod.mk.inj h2).1).symm
  refine ⟨fun x hx => ⟨h3 x hx, fun d hd => ho d ?_⟩, h4⟩
  rw [← h6]
  exact List.mem_flatMap.2 ⟨x, hx, by rw [obB]; exact List.mem_append_right _ hd⟩
noncomputable def tailM (b : List Int) (a1 a4 : Int) (l : List Ob) : Me × Int :=
  if (fieldsI a1).length ≠ l.length ∨ l.length = 0 then (mz 0 0, 5) else
  match decL (fieldsI a1) l (mz a1 a4) with
  | none => (mz 0 0, 5)
  | some m => if encM m = (b, 0) then (m, 0) else (mz 0 0, 5)
def dlI (b : List Int) (a1 a4 : Int) (l : List Ob) (df : DV) (els : List (List DV)) (n0 N pm p2 : Nat) (σ0 : Heap) (m : Nat) (ts : List DV) (σ : Heap) : Prop := ∃ i w, m = els.length + 1 - i ∧ i ≤ els.length ∧ decL (fieldsI a1) l (mz a1 a4) = decL ((fieldsI a1).drop i) (l.drop i) w ∧ w.Wf ∧ σ.get pm = some (MeO w) ∧ σ.get p2 = some (MgO (mz 0 0).m nilS nilS) ∧ Hold σ df 75 els ∧ FdsAt n0 N (fieldsI a1) els σ ∧ Ext [] σ0 σ ∧ N ≤ σ.n ∧ TellsL ts (.imm (bytesD b) :: .any :: .ptr p2 0 0 1 :: .sc (.int .i64 0) :: .imm (l.map eO) :: .any :: .ptr pm 0 0 1 :: df :: .any :: .any :: .any :: .any :: .any :: .any :: .any :: .any :: .any :: .any :: .any :: .any :: .any :: .any :: .any :: .any :: .any :: .any :: .any :: .any :: .any :: .any :: .any :: .any :: .any :: .any :: .any :: .any :: .any :: .any :: .any :: .any :: .any :: .any :: .any :: .any :: .any :: .any :: .any :: .any :: .any :: .any :: .any :: .any :: .any :: .any :: .any :: .any :: .any :: .any :: .any :: .any :: .any :: .any :: .any :: .any :: .any :: .any :: .any :: .any :: .any :: .any :: .any :: .any :: .any :: .any :: .any :: .any :: .any :: .any :: .any :: .any :: .any :: .any :: .any :: .any :: .any :: .any :: .any :: .any :: .any :: df :: .sc (.int .i64 els.length) :: .sc (.int .i64 i) :: .any :: .any :: .any :: .any :: .any :: .any :: .any :: .any :: .any :: .any :: .any :: .any :: .any :: .any :: .any :: .any :: .any :: .any :: .any :: .any :: .any :: .any :: .any :: .any :: .any :: .any :: .any :: .any :: .any :: .any :: .any :: .any :: .any :: .any :: .any :: .any :: .any :: .any :: .any :: .any :: .any :: .any :: .any :: [])
theorem mz_wf {a b : Int} (ha : 0 ≤ a ∧ a < 256) (hb : 0 ≤ b ∧ b < 256) : (mz a b).Wf := by
  simp only [mz, Me.Wf, i64r, u64r, u32r, List.length_nil]; omega
theorem mdec_ok (σ : Heap) {b : List Int} (ho : Octs b) (hb : b.length ≤ 999999) : ACalls Try.prog 11 [.imm (bytesD b)] σ (fun y σ' => y = .tup [.agg (meC (decM b).1), .sc (.int .i64 (decM b).2)] ∧ Ext [] σ σ') := by
  refine ACalls.tells ?_
  have dcbl : (bytesD b).length = b.length := bytesD_length _
  have dcba := bytes_all b
  refine ACalls.code hT Try.func11 rfl ?_
  simp only [Try.ntmps11, List.length_cons, List.length_nil, Nat.reduceSub, Nat.reduceAdd, List.replicate, List.cons_append, List.nil_append]
  by_cases h8 : b.length < 8
  · have hdec : decM b = (mz 0 0, 4) := by
      unfold decM
      split
      · simp only [List.length_cons] at h8; omega
      · rfl
    have dc1 : decide (4096 < (b.length : Int)) = false := by simp; omega
    have dc2 : decide ((b.length : Int) < 8) = true := by simp; omega
    repeat (first | (with_reducible first | refine AW.seq ?_ | refine AW.block ?_ | refine AW.skip ?_ | refine AW.ret ?_ | refine AW.exit ?_ | refine AW.reg hT ?_) | ((with_reducible refine AW.cond_true ?_ ?_); · (simp (maxSteps := 3000000) (maxDischargeDepth := 12) only [seval,push_cast,appendX,dcbl,dcba,dc1,dc2]; done)) | ((with_reducible refine AW.cond_false ?_ ?_); · (simp (maxSteps := 3000000) (maxDischargeDepth := 12) only [seval,push_cast,appendX,dcbl,dcba,dc1,dc2]; done)) | simp (maxSteps := 3000000) (maxDischargeDepth := 12) only [seval,push_cast,appendX,Try.results11,dcbl,dcba,dc1,dc2])
    exact ⟨_, tellsErr 4, by rw [hdec], ((Ext.refl [] σ).push _).set (.inl (Nat.le_refl _)) _⟩
  · obtain ⟨a0, a1, a2, a3, a4, a5, a6, a7, r, rfl⟩ : ∃ a0 a1 a2 a3 a4 a5 a6 a7 r, b = a0 :: a1 :: a2 :: a3 :: a4 :: a5 :: a6 :: a7 :: r := by
      match b, h8 with
      | [], h => simp at h
      | [_], h => simp at h
      | [_, _], h => simp at h
      | [_, _, _], h => simp at h
      | [_, _, _, _], h => simp at h
      | [_, _, _, _, _], h => simp at h
      | [_, _, _, _, _, _], h => simp at h
      | [_, _, _, _, _, _, _], h => simp at h
      | a0 :: a1 :: a2 :: a3 :: a4 :: a5 :: a6 :: a7 :: r, _ => exact ⟨a0, a1, a2, a3, a4, a5, a6, a7, r, rfl⟩
    have e0 : (bytesD (a0 :: a1 :: a2 :: a3 :: a4 :: a5 :: a6 :: a7 :: r))[0]? = some [.sc (.int .u8 a0)] := rfl
    have e1 : (bytesD (a0 :: a1 :: a2 :: a3 :: a4 :: a5 :: a6 :: a7 :: r))[1]? = some [.sc (.int .u8 a1)] := rfl
    have e4 : (bytesD (a0 :: a1 :: a2 :: a3 :: a4 :: a5 :: a6 :: a7 :: r))[4]? = some [.sc (.int .u8 a4)] := rfl
    have e5 : (bytesD (a0 :: a1 :: a2 :: a3 :: a4 :: a5 :: a6 :: a7 :: r))[5]? = some [.sc (.int .u8 a5)] := rfl
    have e6 : (bytesD (a0 :: a1 :: a2 :: a3 :: a4 :: a5 :: a6 :: a7 :: r))[6]? = some [.sc (.int .u8 a6)] := rfl
    have e7 : (bytesD (a0 :: a1 :: a2 :: a3 :: a4 :: a5 :: a6 :: a7 :: r))[7]? = some [.sc (.int .u8 a7)] := rfl
    have ecut : (((bytesD (a0 :: a1 :: a2 :: a3 :: a4 :: a5 :: a6 :: a7 :: r)).take (a0 :: a1 :: a2 :: a3 :: a4 :: a5 :: a6 :: a7 :: r).length).drop 8) = bytesD r := by
      rw [List.take_of_length_le (by rw [bytesD_length]; exact Nat.le_refl _)]; rfl
    have hdec : decM (a0 :: a1 :: a2 :: a3 :: a4 :: a5 :: a6 :: a7 :: r) = if 4096 < (a0 :: a1 :: a2 :: a3 :: a4 :: a5 :: a6 :: a7 :: r).length then (mz 0 0, 3) else if a0 ≠ 16 ∨ a5 ≠ 0 ∨ a6 * 256 + a7 ≠ ((a0 :: a1 :: a2 :: a3 :: a4 :: a5 :: a6 :: a7 :: r).length : Int) then (mz 0 0, 5) else if ofF (a0 :: a1 :: a2 :: a3 :: a4 :: a5 :: a6 :: a7 :: r) ≠ 0 then (mz 0 0, 6) else if (decO r).2 ≠ 0 then (mz 0 0, (decO r).2) else tailM (a0 :: a1 :: a2 :: a3 :: a4 :: a5 :: a6 :: a7 :: r) a1 a4 (decO r).1 := rfl
    have hor : Octs r := fun x hx => ho x (by simp [hx])
    have h0 := ho a0 (by simp)
    have h1 := ho a1 (by simp)
    have h4 := ho a4 (by simp)
    have h6 := ho a6 (by simp)
    have h7 := ho a7 (by simp)
    have hrl : r.length ≤ 1000000 := by simp at hb; omega
    generalize a0 :: a1 :: a2 :: a3 :: a4 :: a5 :: a6 :: a7 :: r = b at *
    have dcb0 := e0
    have dcb1 := e1
    have dcb4 := e4
    have dcb5 := e5
    have dcb6 := e6
    have dcb7 := e7
    have dcbc := ecut
    have dc2 : decide ((b.length : Int) < 8) = false := by simp; omega
    have dcl0 : ((0 : Int) < (b.length : Int)) = True := by simp; omega
    have dcl1 : ((1 : Int) < (b.length : Int)) = True := by simp; omega
    have dcl4 : ((4 : Int) < (b.length : Int)) = True := by simp; omega
    have dcl5 : ((5 : Int) < (b.length : Int)) = True := by simp; omega
    have dcl6 : ((6 : Int) < (b.length : Int)) = True := by simp; omega
    have dcl7 : ((7 : Int) < (b.length : Int)) = True := by simp; omega
    have dcl8 : ((8 : Int) ≤ (b.length : Int)) = True := by simp; omega
    have dcw6 : IntKind.i64.wrap a6 = a6 := wrap_i64 (by omega) (by omega)
    have dcw7 : IntKind.i64.wrap a7 = a7 := wrap_i64 (by omega) (by omega)
    have dcsh : IntKind.i64.wrap (a6 * 2 ^ min 8 64) = a6 * 256 := by rw [show (2 : Int) ^ min 8 64 = 256 from by decide]; exact wrap_i64 (by omega) (by omega)
    have dcor := or_i64 h6 h7
    by_cases h40 : 4096 < b.length
    · have dc1 : decide (4096 < (b.length : Int)) = true := by simp; omega
      rw [if_pos h40] at hdec
      repeat (first | (with_reducible first | refine AW.seq ?_ | refine AW.block ?_ | refine AW.skip ?_ | refine AW.ret ?_ | refine AW.exit ?_ | refine AW.reg hT ?_) | ((with_reducible refine AW.cond_true ?_ ?_); · (simp (maxSteps := 3000000) (maxDischargeDepth := 12) only [seval,push_cast,appendX,dcbl,dcba,dcb0,dcb1,dcb4,dcb5,dcb6,dcb7,dcbc,dc2,dcl0,dcl1,dcl4,dcl5,dcl6,dcl7,dcl8,dcw6,dcw7,dcsh,dcor,dc1]; done)) | ((with_reducible refine AW.cond_false ?_ ?_); · (simp (maxSteps := 3000000) (maxDischargeDepth := 12) only [seval,push_cast,appendX,dcbl,dcba,dcb0,dcb1,dcb4,dcb5,dcb6,dcb7,dcbc,dc2,dcl0,dcl1,dcl4,dcl5,dcl6,dcl7,dcl8,dcw6,dcw7,dcsh,dcor,dc1]; done)) | simp (maxSteps := 3000000) (maxDischargeDepth := 12) only [seval,push_cast,appendX,Try.results11,dcbl,dcba,dcb0,dcb1,dcb4,dcb5,dcb6,dcb7,dcbc,dc2,dcl0,dcl1,dcl4,dcl5,dcl6,dcl7,dcl8,dcw6,dcw7,dcsh,dcor,dc1])
      exact ⟨_, tellsErr 3, by rw [hdec], ((Ext.refl [] σ).push _).set (.inl (Nat.le_refl _)) _⟩
    · have dc1 : decide (4096 < (b.length : Int)) = false := by simp; omega
      rw [if_neg h40] at hdec
      by_cases hform : a0 ≠ 16 ∨ a5 ≠ 0 ∨ a6 * 256 + a7 ≠ (b.length : Int)
      · rw [if_pos hform] at hdec
        have hfin : ∀ σ' : Heap, Ext [] σ σ' → ∃ x', Tells (.tup [.agg (mgC (mz 0 0).m nilS nilS), .sc (.int .i64 5)]) x' ∧ (x' = .tup [.agg (meC (decM b).1), .sc (.int .i64 (decM b).2)] ∧ Ext [] σ σ') := fun σ' hx => ⟨_, tellsErr 5, by rw [hdec], hx⟩
        by_cases hf0 : a0 = 16
        · have dcf0 : (a0 == 16) = true := by simpa using hf0
          by_cases hf5 : a5 = 0
          · have dcf5 : (a5 == 0) = true := by simpa using hf5
            have dcf6 : (a6 * 256 + a7 == (b.length : Int)) = false := by simp; omega
            repeat (first | (with_reducible first | refine AW.seq ?_ | refine AW.block ?_ | refine AW.skip ?_ | refine AW.ret ?_ | refine AW.exit ?_ | refine AW.reg hT ?_) | ((with_reducible show AW _ (.region 5 _ _) _ _ _); (with_reducible refine AW.drawn (id := 5) hT [0,1,2,3,4,5,6,7,8,9,10,11,12,13,14,15,16,17,18,19,20,21,22,23,24,25] [[],[0],[0,1],[0,1,2],[0,1,2,3],[0,1,2,3,4],[0,1,2,3,4,5],[0,1,2,3,4,5,6],[0,1,2,3,4,5,6,7],[0,1,2,3,4,5,6,7,8],[0,1,2,3,4,5,6,7,8,9],[0,1,2,3,4,5,6,7,8,9,10],[0,1,2,3,4,5,6,7,8,9,10,11],[0,1,2,3,4,5,6,7,8,9,10,11,12],[0,1,2,3,4,5,6,7,8,9,10,11,12,13],[0,1,2,3,4,5,6,7,8,9,10,11,12,13,14],[0,1,2,3,4,5,6,7,8,9,10],[0,1,2,3,4,5,6,7,8,9,10,16],[0,1,2,3,4,5,6,7,8,9,10,16,17],[0,1,2,3,4,5,6,7,8,9,10,16,17,18],[0,1,2,3,4,5,6,7,8,9,10,11,12,13,14,15,16,17,18,19],[0,1,2,3,4,5,6,7,8,9,10],[0,1,2,3,4,5,6,7,8,9,10,21],[0,1,2,3,4,5,6,7,8,9,10,11,12,13,14,15,16,17,18,19,20,21,22],[0,1,2,3,4,5,6,7,8,9,10,11,12,13,14,15,16,17,18,19,20,21,22,23],[0,1,2,3,4,5,6,7,8,9,10,11,12,13,14,15,16,17,18,19,20,21,22,23,24]] mix (by kernel_rfl) ?_)) | ((with_reducible show DLeft _ _ _ _ (_ :: _) _ _ _ _); (with_reducible apply DLeft.step hT); (case hoi => ((simp only [List.getElem?_toArray,List.getElem?_cons_zero,List.getElem?_cons_succ]); with_reducible rfl)); (case hg => rfl); (case hk => rfl); (case hr => ((try simp (maxSteps := 3000000) (maxDischargeDepth := 12) only [seval,push_cast,appendX,Try.results11,dcbl,dcba,dcb0,dcb1,dcb4,dcb5,dcb6,dcb7,dcbc,dc2,dcl0,dcl1,dcl4,dcl5,dcl6,dcl7,dcl8,dcw6,dcw7,dcsh,dcor,dc1,dcf0,dcf5,dcf6]); with_reducible rfl))) | ((with_reducible refine AW.cond_true ?_ ?_); · (simp (maxSteps := 3000000) (maxDischargeDepth := 12) only [seval,push_cast,appendX,dcbl,dcba,dcb0,dcb1,dcb4,dcb5,dcb6,dcb7,dcbc,dc2,dcl0,dcl1,dcl4,dcl5,dcl6,dcl7,dcl8,dcw6,dcw7,dcsh,dcor,dc1,dcf0,dcf5,dcf6]; done)) | ((with_reducible refine AW.cond_false ?_ ?_); · (simp (maxSteps := 3000000) (maxDischargeDepth := 12) only [seval,push_cast,appendX,dcbl,dcba,dcb0,dcb1,dcb4,dcb5,dcb6,dcb7,dcbc,dc2,dcl0,dcl1,dcl4,dcl5,dcl6,dcl7,dcl8,dcw6,dcw7,dcsh,dcor,dc1,dcf0,dcf5,dcf6]; done)) | simp (maxSteps := 3000000) (maxDischargeDepth := 12) only [seval,push_cast,appendX,Try.results11,dcbl,dcba,dcb0,dcb1,dcb4,dcb5,dcb6,dcb7,dcbc,dc2,dcl0,dcl1,dcl4,dcl5,dcl6,dcl7,dcl8,dcw6,dcw7,dcsh,dcor,dc1,dcf0,dcf5,dcf6])
            exact hfin _ (((Ext.refl [] σ).push _).set (.inl (Nat.le_refl _)) _)
          · have dcf5 : (a5 == 0) = false := by simpa using hf5
            repeat (first | (with_reducible first | refine AW.seq ?_ | refine AW.block ?_ | refine AW.skip ?_ | refine AW.ret ?_ | refine AW.exit ?_ | refine AW.reg hT ?_) | ((with_reducible show AW _ (.region 5 _ _) _ _ _); (with_reducible refine AW.drawn (id := 5) hT [0,1,2,3,4,5,6,7,8,9,10,11,12,13,14,15,16,17,18,19,20,21,22,23,24,25] [[],[0],[0,1],[0,1,2],[0,1,2,3],[0,1,2,3,4],[0,1,2,3,4,5],[0,1,2,3,4,5,6],[0,1,2,3,4,5,6,7],[0,1,2,3,4,5,6,7,8],[0,1,2,3,4,5,6,7,8,9],[0,1,2,3,4,5,6,7,8,9,10],[0,1,2,3,4,5,6,7,8,9,10,11],[0,1,2,3,4,5,6,7,8,9,10,11,12],[0,1,2,3,4,5,6,7,8,9,10,11,12,13],[0,1,2,3,4,5,6,7,8,9,10,11,12,13,14],[0,1,2,3,4,5,6,7,8,9,10],[0,1,2,3,4,5,6,7,8,9,10,16],[0,1,2,3,4,5,6,7,8,9,10,16,17],[0,1,2,3,4,5,6,7,8,9,10,16,17,18],[0,1,2,3,4,5,6,7,8,9,10,11,12,13,14,15,16,17,18,19],[0,1,2,3,4,5,6,7,8,9,10],[0,1,2,3,4,5,6,7,8,9,10,21],[0,1,2,3,4,5,6,7,8,9,10,11,12,13,14,15,16,17,18,19,20,21,22],[0,1,2,3,4,5,6,7,8,9,10,11,12,13,14,15,16,17,18,19,20,21,22,23],[0,1,2,3,4,5,6,7,8,9,10,11,12,13,14,15,16,17,18,19,20,21,22,23,24]] mix (by kernel_rfl) ?_)) | ((with_reducible show DLeft _ _ _ _ (_ :: _) _ _ _ _); (with_reducible apply DLeft.step hT); (case hoi => ((simp only [List.getElem?_toArray,List.getElem?_cons_zero,List.getElem?_cons_succ]); with_reducible rfl)); (case hg => rfl); (case hk => rfl); (case hr => ((try simp (maxSteps := 3000000) (maxDischargeDepth := 12) only [seval,push_cast,appendX,Try.results11,dcbl,dcba,dcb0,dcb1,dcb4,dcb5,dcb6,dcb7,dcbc,dc2,dcl0,dcl1,dcl4,dcl5,dcl6,dcl7,dcl8,dcw6,dcw7,dcsh,dcor,dc1,dcf0,dcf5]); with_reducible rfl))) | ((with_reducible refine AW.cond_true ?_ ?_); · (simp (maxSteps := 3000000) (maxDischargeDepth := 12) only [seval,push_cast,appendX,dcbl,dcba,dcb0,dcb1,dcb4,dcb5,dcb6,dcb7,dcbc,dc2,dcl0,dcl1,dcl4,dcl5,dcl6,dcl7,dcl8,dcw6,dcw7,dcsh,dcor,dc1,dcf0,dcf5]; done)) | ((with_reducible refine AW.cond_false ?_ ?_); · (simp (maxSteps := 3000000) (maxDischargeDepth := 12) only [seval,push_cast,appendX,dcbl,dcba,dcb0,dcb1,dcb4,dcb5,dcb6,dcb7,dcbc,dc2,dcl0,dcl1,dcl4,dcl5,dcl6,dcl7,dcl8,dcw6,dcw7,dcsh,dcor,dc1,dcf0,dcf5]; done)) | simp (maxSteps := 3000000) (maxDischargeDepth := 12) only [seval,push_cast,appendX,Try.results11,dcbl,dcba,dcb0,dcb1,dcb4,dcb5,dcb6,dcb7,dcbc,dc2,dcl0,dcl1,dcl4,dcl5,dcl6,dcl7,dcl8,dcw6,dcw7,dcsh,dcor,dc1,dcf0,dcf5])
            exact hfin _ (((Ext.refl [] σ).push _).set (.inl (Nat.le_refl _)) _)
        · have dcf0 : (a0 == 16) = false := by simpa using hf0
          repeat (first | (with_reducible first | refine AW.seq ?_ | refine AW.block ?_ | refine AW.skip ?_ | refine AW.ret ?_ | refine AW.exit ?_ | refine AW.reg hT ?_) | ((with_reducible show AW _ (.region 5 _ _) _ _ _); (with_reducible refine AW.drawn (id := 5) hT [0,1,2,3,4,5,6,7,8,9,10,11,12,13,14,15,16,17,18,19,20,21,22,23,24,25] [[],[0],[0,1],[0,1,2],[0,1,2,3],[0,1,2,3,4],[0,1,2,3,4,5],[0,1,2,3,4,5,6],[0,1,2,3,4,5,6,7],[0,1,2,3,4,5,6,7,8],[0,1,2,3,4,5,6,7,8,9],[0,1,2,3,4,5,6,7,8,9,10],[0,1,2,3,4,5,6,7,8,9,10,11],[0,1,2,3,4,5,6,7,8,9,10,11,12],[0,1,2,3,4,5,6,7,8,9,10,11,12,13],[0,1,2,3,4,5,6,7,8,9,10,11,12,13,14],[0,1,2,3,4,5,6,7,8,9,10],[0,1,2,3,4,5,6,7,8,9,10,16],[0,1,2,3,4,5,6,7,8,9,10,16,17],[0,1,2,3,4,5,6,7,8,9,10,16,17,18],[0,1,2,3,4,5,6,7,8,9,10,11,12,13,14,15,16,17,18,19],[0,1,2,3,4,5,6,7,8,9,10],[0,1,2,3,4,5,6,7,8,9,10,21],[0,1,2,3,4,5,6,7,8,9,10,11,12,13,14,15,16,17,18,19,20,21,22],[0,1,2,3,4,5,6,7,8,9,10,11,12,13,14,15,16,17,18,19,20,21,22,23],[0,1,2,3,4,5,6,7,8,9,10,11,12,13,14,15,16,17,18,19,20,21,22,23,24]] mix (by kernel_rfl) ?_)) | ((with_reducible show DLeft _ _ _ _ (_ :: _) _ _ _ _); (with_reducible apply DLeft.step hT); (case hoi => ((simp only [List.getElem?_toArray,List.getElem?_cons_zero,List.getElem?_cons_succ]); with_reducible rfl)); (case hg => rfl); (case hk => rfl); (case hr => ((try simp (maxSteps := 3000000) (maxDischargeDepth := 12) only [seval,push_cast,appendX,Try.results11,dcbl,dcba,dcb0,dcb1,dcb4,dcb5,dcb6,dcb7,dcbc,dc2,dcl0,dcl1,dcl4,dcl5,dcl6,dcl7,dcl8,dcw6,dcw7,dcsh,dcor,dc1,dcf0]); with_reducible rfl))) | ((with_reducible refine AW.cond_true ?_ ?_); · (simp (maxSteps := 3000000) (maxDischargeDepth := 12) only [seval,push_cast,appendX,dcbl,dcba,dcb0,dcb1,dcb4,dcb5,dcb6,dcb7,dcbc,dc2,dcl0,dcl1,dcl4,dcl5,dcl6,dcl7,dcl8,dcw6,dcw7,dcsh,dcor,dc1,dcf0]; done)) | ((with_reducible refine AW.cond_false ?_ ?_); · (simp (maxSteps := 3000000) (maxDischargeDepth := 12) only [seval,push_cast,appendX,dcbl,dcba,dcb0,dcb1,dcb4,dcb5,dcb6,dcb7,dcbc,dc2,dcl0,dcl1,dcl4,dcl5,dcl6,dcl7,dcl8,dcw6,dcw7,dcsh,dcor,dc1,dcf0]; done)) | simp (maxSteps := 3000000) (maxDischargeDepth := 12) only [seval,push_cast,appendX,Try.results11,dcbl,dcba,dcb0,dcb1,dcb4,dcb5,dcb6,dcb7,dcbc,dc2,dcl0,dcl1,dcl4,dcl5,dcl6,dcl7,dcl8,dcw6,dcw7,dcsh,dcor,dc1,dcf0])
          exact hfin _ (((Ext.refl [] σ).push _).set (.inl (Nat.le_refl _)) _)
      · rw [if_neg hform] at hdec
        have dcf0 : (a0 == 16) = true := by simp; omega
        have dcf5 : (a5 == 0) = true := by simp; omega
        have dcf6 : (a6 * 256 + a7 == (b.length : Int)) = true := by simp; omega
        repeat (first | (with_reducible first | refine AW.seq ?_ | refine AW.block ?_ | refine AW.skip ?_ | refine AW.ret ?_ | refine AW.exit ?_ | refine AW.reg hT ?_) | ((with_reducible show AW _ (.region 5 _ _) _ _ _); (with_reducible refine AW.drawn (id := 5) hT [0,1,2,3,4,5,6,7,8,9,10,11,12,13,14,15,16,17,18,19,20,21,22,23,24,25] [[],[0],[0,1],[0,1,2],[0,1,2,3],[0,1,2,3,4],[0,1,2,3,4,5],[0,1,2,3,4,5,6],[0,1,2,3,4,5,6,7],[0,1,2,3,4,5,6,7,8],[0,1,2,3,4,5,6,7,8,9],[0,1,2,3,4,5,6,7,8,9,10],[0,1,2,3,4,5,6,7,8,9,10,11],[0,1,2,3,4,5,6,7,8,9,10,11,12],[0,1,2,3,4,5,6,7,8,9,10,11,12,13],[0,1,2,3,4,5,6,7,8,9,10,11,12,13,14],[0,1,2,3,4,5,6,7,8,9,10],[0,1,2,3,4,5,6,7,8,9,10,16],[0,1,2,3,4,5,6,7,8,9,10,16,17],[0,1,2,3,4,5,6,7,8,9,10,16,17,18],[0,1,2,3,4,5,6,7,8,9,10,11,12,13,14,15,16,17,18,19],[0,1,2,3,4,5,6,7,8,9,10],[0,1,2,3,4,5,6,7,8,9,10,21],[0,1,2,3,4,5,6,7,8,9,10,11,12,13,14,15,16,17,18,19,20,21,22],[0,1,2,3,4,5,6,7,8,9,10,11,12,13,14,15,16,17,18,19,20,21,22,23],[0,1,2,3,4,5,6,7,8,9,10,11,12,13,14,15,16,17,18,19,20,21,22,23,24]] mix (by kernel_rfl) ?_)) | ((with_reducible show DLeft _ _ _ _ (_ :: _) _ _ _ _); (with_reducible apply DLeft.step hT); (case hoi => ((simp only [List.getElem?_toArray,List.getElem?_cons_zero,List.getElem?_cons_succ]); with_reducible rfl)); (case hg => rfl); (case hk => rfl); (case hr => ((try simp (maxSteps := 3000000) (maxDischargeDepth := 12) only [seval,push_cast,appendX,Try.results11,dcbl,dcba,dcb0,dcb1,dcb4,dcb5,dcb6,dcb7,dcbc,dc2,dcl0,dcl1,dcl4,dcl5,dcl6,dcl7,dcl8,dcw6,dcw7,dcsh,dcor,dc1,dcf0,dcf5,dcf6]); with_reducible rfl))) | ((with_reducible refine AW.cond_true ?_ ?_); · (simp (maxSteps := 3000000) (maxDischargeDepth := 12) only [seval,push_cast,appendX,dcbl,dcba,dcb0,dcb1,dcb4,dcb5,dcb6,dcb7,dcbc,dc2,dcl0,dcl1,dcl4,dcl5,dcl6,dcl7,dcl8,dcw6,dcw7,dcsh,dcor,dc1,dcf0,dcf5,dcf6]; done)) | ((with_reducible refine AW.cond_false ?_ ?_); · (simp (maxSteps := 3000000) (maxDischargeDepth := 12) only [seval,push_cast,appendX,dcbl,dcba,dcb0,dcb1,dcb4,dcb5,dcb6,dcb7,dcbc,dc2,dcl0,dcl1,dcl4,dcl5,dcl6,dcl7,dcl8,dcw6,dcw7,dcsh,dcor,dc1,dcf0,dcf5,dcf6]; done)) | simp (maxSteps := 3000000) (maxDischargeDepth := 12) only [seval,push_cast,appendX,Try.results11,dcbl,dcba,dcb0,dcb1,dcb4,dcb5,dcb6,dcb7,dcbc,dc2,dcl0,dcl1,dcl4,dcl5,dcl6,dcl7,dcl8,dcw6,dcw7,dcsh,dcor,dc1,dcf0,dcf5,dcf6])
        refine AOpsL.call (first := []) (cap := []) hT rfl rfl rfl fn24 rfl (ACalls.mono (sright_ok _ ho hb) ?_)
        rintro y σ1 ⟨rfl, xt1⟩
        have gt21 : σ1.get σ.n = some (MgO (mz 0 0).m nilS nilS) := xt1.get (by simp (maxSteps := 3000000) (maxDischargeDepth := 12) only [push_cast, appendX, Nat.reduceAdd, Nat.reduceEqDiff, Nat.reduceLT, Nat.reduceLeDiff, reduceIte, reduceCtorEq, mz, nilS, MgO, mgC, dcbl, dcba, dcb0, dcb1, dcb4, dcb5, dcb6, dcb7, dcbc, dc2, dcl0, dcl1, dcl4, dcl5, dcl6, dcl7, dcl8, dcw6, dcw7, dcsh, dcor, dc1, dcf0, dcf5, dcf6, xt1.2, xt1.ltT, xt1.leT]) (by simp)
        have xt01 : Ext [] σ σ1 := ((Ext.refl [] σ).push (MgO (mz 0 0).m nilS nilS)).trans xt1
        clear xt1
        by_cases hsum : ¬ ofF b = 0
        · have dcs : (ofF b == 0) = false := by simpa using hsum
          rw [if_pos (by simpa using hsum)] at hdec
          repeat (first | (with_reducible first | refine AW.seq ?_ | refine AW.block ?_ | refine AW.skip ?_ | refine AW.ret ?_ | refine AW.exit ?_ | refine AW.reg hT ?_) | ((with_reducible refine AW.cond_true ?_ ?_); · (simp (maxSteps := 3000000) (maxDischargeDepth := 12) only [seval,push_cast,appendX,dcbl,dcba,dcb0,dcb1,dcb4,dcb5,dcb6,dcb7,dcbc,dc2,dcl0,dcl1,dcl4,dcl5,dcl6,dcl7,dcl8,dcw6,dcw7,dcsh,dcor,dc1,dcf0,dcf5,dcf6,gt21,Heap.lt gt21,xt01.2,xt01.ltT,xt01.leT,dcs]; done)) | ((with_reducible refine AW.cond_false ?_ ?_); · (simp (maxSteps := 3000000) (maxDischargeDepth := 12) only [seval,push_cast,appendX,dcbl,dcba,dcb0,dcb1,dcb4,dcb5,dcb6,dcb7,dcbc,dc2,dcl0,dcl1,dcl4,dcl5,dcl6,dcl7,dcl8,dcw6,dcw7,dcsh,dcor,dc1,dcf0,dcf5,dcf6,gt21,Heap.lt gt21,xt01.2,xt01.ltT,xt01.leT,dcs]; done)) | simp (maxSteps := 3000000) (maxDischargeDepth := 12) only [seval,push_cast,appendX,Try.results11,MgO,mgC,dcbl,dcba,dcb0,dcb1,dcb4,dcb5,dcb6,dcb7,dcbc,dc2,dcl0,dcl1,dcl4,dcl5,dcl6,dcl7,dcl8,dcw6,dcw7,dcsh,dcor,dc1,dcf0,dcf5,dcf6,gt21,Heap.lt gt21,xt01.2,xt01.ltT,xt01.leT,dcs])
          exact ⟨_, tellsErr 6, by rw [hdec], xt01.set (.inl (Nat.le_refl _)) _⟩
        · have hsum := Decidable.not_not.1 hsum
          have dcs : (ofF b == 0) = true := by simpa using hsum
          rw [if_neg (by simp [hsum])] at hdec
          repeat (first | (with_reducible first | refine AW.seq ?_ | refine AW.block ?_ | refine AW.skip ?_ | refine AW.ret ?_ | refine AW.exit ?_ | refine AW.reg hT ?_) | ((with_reducible refine AW.cond_true ?_ ?_); · (simp (maxSteps := 3000000) (maxDischargeDepth := 12) only [seval,push_cast,appendX,dcbl,dcba,dcb0,dcb1,dcb4,dcb5,dcb6,dcb7,dcbc,dc2,dcl0,dcl1,dcl4,dcl5,dcl6,dcl7,dcl8,dcw6,dcw7,dcsh,dcor,dc1,dcf0,dcf5,dcf6,gt21,Heap.lt gt21,xt01.2,xt01.ltT,xt01.leT,dcs]; done)) | ((with_reducible refine AW.cond_false ?_ ?_); · (simp (maxSteps := 3000000) (maxDischargeDepth := 12) only [seval,push_cast,appendX,dcbl,dcba,dcb0,dcb1,dcb4,dcb5,dcb6,dcb7,dcbc,dc2,dcl0,dcl1,dcl4,dcl5,dcl6,dcl7,dcl8,dcw6,dcw7,dcsh,dcor,dc1,dcf0,dcf5,dcf6,gt21,Heap.lt gt21,xt01.2,xt01.ltT,xt01.leT,dcs]; done)) | simp (maxSteps := 3000000) (maxDischargeDepth := 12) only [seval,push_cast,appendX,Try.results11,dcbl,dcba,dcb0,dcb1,dcb4,dcb5,dcb6,dcb7,dcbc,dc2,dcl0,dcl1,dcl4,dcl5,dcl6,dcl7,dcl8,dcw6,dcw7,dcsh,dcor,dc1,dcf0,dcf5,dcf6,gt21,Heap.lt gt21,xt01.2,xt01.ltT,xt01.leT,dcs])
          refine AOpsL.call (first := []) (cap := []) hT rfl rfl rfl fn25 rfl (ACalls.mono (decode_ok _ r hor hrl) ?_)
          rintro y σ2 ⟨rfl, xt2⟩
          have gt22 := xt2.get gt21 (by simp)
          have xt02 := xt01.trans xt2
          clear gt21 xt01 xt2
          by_cases he : ¬ (decO r).2 = 0
          · have dce : ((decO r).2 == 0) = false := by simpa using he
            rw [if_pos (by simpa using he)] at hdec
            repeat (first | (with_reducible first | refine AW.seq ?_ | refine AW.block ?_ | refine AW.skip ?_ | refine AW.ret ?_ | refine AW.exit ?_ | refine AW.reg hT ?_) | ((with_reducible refine AW.cond_true ?_ ?_); · (simp (maxSteps := 3000000) (maxDischargeDepth := 12) only [seval,push_cast,appendX,dcbl,dcba,dcb0,dcb1,dcb4,dcb5,dcb6,dcb7,dcbc,dc2,dcl0,dcl1,dcl4,dcl5,dcl6,dcl7,dcl8,dcw6,dcw7,dcsh,dcor,dc1,dcf0,dcf5,dcf6,dcs,gt22,Heap.lt gt22,xt02.2,xt02.ltT,xt02.leT,dce]; done)) | ((with_reducible refine AW.cond_false ?_ ?_); · (simp (maxSteps := 3000000) (maxDischargeDepth := 12) only [seval,push_cast,appendX,dcbl,dcba,dcb0,dcb1,dcb4,dcb5,dcb6,dcb7,dcbc,dc2,dcl0,dcl1,dcl4,dcl5,dcl6,dcl7,dcl8,dcw6,dcw7,dcsh,dcor,dc1,dcf0,dcf5,dcf6,dcs,gt22,Heap.lt gt22,xt02.2,xt02.ltT,xt02.leT,dce]; done)) | simp (maxSteps := 3000000) (maxDischargeDepth := 12) only [seval,push_cast,appendX,Try.results11,MgO,mgC,dcbl,dcba,dcb0,dcb1,dcb4,dcb5,dcb6,dcb7,dcbc,dc2,dcl0,dcl1,dcl4,dcl5,dcl6,dcl7,dcl8,dcw6,dcw7,dcsh,dcor,dc1,dcf0,dcf5,dcf6,dcs,gt22,Heap.lt gt22,xt02.2,xt02.ltT,xt02.leT,dce])
            exact ⟨_, tellsErr _, by rw [hdec], xt02.set (.inl (Nat.le_refl _)) _⟩
          · have he := Decidable.not_not.1 he
            have dce : ((decO r).2 == 0) = true := by simpa using he
            rw [if_neg (by simp [he])] at hdec
            obtain ⟨hobs, hob32⟩ := dec_obs hor he
            revert hobs hob32 hdec dce
            generalize (decO r).2 = e
            generalize (decO r).1 = l
            intro hdec dce hobs hob32
            have dclm : (l.map eO).length = l.length := List.length_map ..
            have dcw1 : IntKind.i64.wrap a1 = a1 := wrap_i64 (by omega) (by omega)
            have dcw4 : IntKind.i64.wrap a4 = a4 := wrap_i64 (by omega) (by omega)
            repeat ((fail_if_success (with_reducible refine AW.at1 (id := 13) ?_)); (fail_if_success (with_reducible refine AW.at2 (id := 13) ?_)); first | (with_reducible first | refine AW.seq ?_ | refine AW.block ?_ | refine AW.skip ?_ | refine AW.ret ?_ | refine AW.exit ?_ | refine AW.reg hT ?_) | ((with_reducible show AW _ (.region 12 _ _) _ _ _); (with_reducible refine AW.drawn (id := 12) hT [0,1,2,3,4,5,6,7,8,9,10] [[],[0],[0,1],[0,1,2],[],[4],[4,5],[4,5,6],[0,1,2,3,4,5,6,7],[],[0,1,2,3,4,5,6,7,8,9]] mix (by kernel_rfl) ?_)) | ((with_reducible show DLeft _ _ _ _ (_ :: _) _ _ _ _); (with_reducible apply DLeft.step hT); (case hoi => ((simp only [List.getElem?_toArray,List.getElem?_cons_zero,List.getElem?_cons_succ]); with_reducible rfl)); (case hg => rfl); (case hk => rfl); (case hr => ((try simp (maxSteps := 3000000) (maxDischargeDepth := 12) only [seval,push_cast,appendX,Try.results11,dcbl,dcba,dcb0,dcb1,dcb4,dcb5,dcb6,dcb7,dcbc,dc2,dcl0,dcl1,dcl4,dcl5,dcl6,dcl7,dcl8,dcw6,dcw7,dcsh,dcor,dc1,dcf0,dcf5,dcf6,dcs,gt22,Heap.lt gt22,xt02.2,xt02.ltT,xt02.leT,dce,dclm,dcw1,dcw4]); with_reducible rfl))) | ((with_reducible refine AW.cond_true ?_ ?_); · (simp (maxSteps := 3000000) (maxDischargeDepth := 12) only [seval,push_cast,appendX,dcbl,dcba,dcb0,dcb1,dcb4,dcb5,dcb6,dcb7,dcbc,dc2,dcl0,dcl1,dcl4,dcl5,dcl6,dcl7,dcl8,dcw6,dcw7,dcsh,dcor,dc1,dcf0,dcf5,dcf6,dcs,gt22,Heap.lt gt22,xt02.2,xt02.ltT,xt02.leT,dce,dclm,dcw1,dcw4]; done)) | ((with_reducible refine AW.cond_false ?_ ?_); · (simp (maxSteps := 3000000) (maxDischargeDepth := 12) only [seval,push_cast,appendX,dcbl,dcba,dcb0,dcb1,dcb4,dcb5,dcb6,dcb7,dcbc,dc2,dcl0,dcl1,dcl4,dcl5,dcl6,dcl7,dcl8,dcw6,dcw7,dcsh,dcor,dc1,dcf0,dcf5,dcf6,dcs,gt22,Heap.lt gt22,xt02.2,xt02.ltT,xt02.leT,dce,dclm,dcw1,dcw4]; done)) | simp (maxSteps := 3000000) (maxDischargeDepth := 12) only [seval,push_cast,appendX,Try.results11,dcbl,dcba,dcb0,dcb1,dcb4,dcb5,dcb6,dcb7,dcbc,dc2,dcl0,dcl1,dcl4,dcl5,dcl6,dcl7,dcl8,dcw6,dcw7,dcsh,dcor,dc1,dcf0,dcf5,dcf6,dcs,gt22,Heap.lt gt22,xt02.2,xt02.ltT,xt02.leT,dce,dclm,dcw1,dcw4])
            refine AW.name (fun σ3 hσ3 => ?_)
            have g23 : σ3.get σ.n = some (MgO (mz 0 0).m nilS nilS) := by subst hσ3; simp (maxSteps := 3000000) (maxDischargeDepth := 12) only [push_cast, appendX, Nat.reduceAdd, Nat.reduceEqDiff, Nat.reduceLT, Nat.reduceLeDiff, reduceIte, reduceCtorEq, dcbl, dcba, dcb0, dcb1, dcb4, dcb5, dcb6, dcb7, dcbc, dc2, dcl0, dcl1, dcl4, dcl5, dcl6, dcl7, dcl8, dcw6, dcw7, dcsh, dcor, dc1, dcf0, dcf5, dcf6, dcs, gt22, Heap.lt gt22, xt02.2, xt02.ltT, xt02.leT, dce, dclm, dcw1, dcw4]
            have gm3 : σ3.get σ2.n = some (MgO (mz a1 a4).m nilS nilS) := by subst hσ3; simp (maxSteps := 3000000) (maxDischargeDepth := 12) only [push_cast, appendX, Nat.reduceAdd, Nat.reduceEqDiff, Nat.reduceLT, Nat.reduceLeDiff, reduceIte, reduceCtorEq, mz, nilS, MgO, mgC, dcbl, dcba, dcb0, dcb1, dcb4, dcb5, dcb6, dcb7, dcbc, dc2, dcl0, dcl1, dcl4, dcl5, dcl6, dcl7, dcl8, dcw6, dcw7, dcsh, dcor, dc1, dcf0, dcf5, dcf6, dcs, gt22, Heap.lt gt22, xt02.2, xt02.ltT, xt02.leT, dce, dclm, dcw1, dcw4]
            have x03 : Ext [] σ σ3 := by subst hσ3; repeat (first | exact Ext.refl _ _ | assumption | refine Ext.push ?_ _ | ((refine Ext.set ?_ ?_ _); rotate_left; · (simp (maxSteps := 3000000) (maxDischargeDepth := 12) only [push_cast, appendX, Nat.reduceAdd, Nat.reduceEqDiff, Nat.reduceLT, Nat.reduceLeDiff, reduceIte, reduceCtorEq, dcbl, dcba, dcb0, dcb1, dcb4, dcb5, dcb6, dcb7, dcbc, dc2, dcl0, dcl1, dcl4, dcl5, dcl6, dcl7, dcl8, dcw6, dcw7, dcsh, dcor, dc1, dcf0, dcf5, dcf6, dcs, gt22, Heap.lt gt22, xt02.2, xt02.ltT, xt02.leT, dce, dclm, dcw1, dcw4])) | ((refine Ext.then1 (by assumption) ?_ ?_); rotate_left; · (intro p hp _; first | assumption | exact List.mem_cons_of_mem _ hp | (cases hp; done) | (simp at hp; subst hp; simp))))
            have hn3 : σ2.n + 1 = σ3.n := by subst hσ3; simp
            have hp2l := Heap.lt gt22
            clear hσ3 gt22 xt02
            clear dcb0 dcb1 dcb4 dcb5 dcb6 dcb7 dcbc dcl0 dcl1 dcl4 dcl5 dcl6 dcl7 dcl8 dcw6 dcw7 dcsh dcor dc1 dc2 dcf0 dcf5 dcf6 dcs dcw1 dcw4 dcba dce
            obtain ⟨p2, hp2⟩ : ∃ p, p = σ.n := ⟨_, rfl⟩
            obtain ⟨pm, hpm⟩ : ∃ p, p = σ2.n := ⟨_, rfl⟩
            rw [← hp2] at g23 hp2l; rw [← hpm] at gm3
            rw [← hpm, ← hp2]
            refine AW.retell (el' := meC (mz a1 a4)) gm3 ⟨Tells.refl _, Tells.refl _, Tells.refl _, Tells.refl _, Tells.refl _, Tells.refl _, Tells.refl _, Tells.refl _, Tells.refl _, Tells.refl _, Tells.refl _, Tells.refl _, Tells.refl _, Tells.refl _, Tells.refl _, Tells.nil, Tells.nil, Tells.refl _, Tells.refl _, Tells.refl _, trivial⟩ ?_
            refine AW.name (fun σ4 hσ4 => ?_)
            have gm4 : σ4.get pm = some (MeO (mz a1 a4)) := by subst hσ4; exact Heap.get_set (by omega)
            have g24 : σ4.get p2 = some (MgO (mz 0 0).m nilS nilS) := by subst hσ4; rw [Heap.get_set_ne (by omega)]; exact g23
            have x04 : Ext [] σ σ4 := by subst hσ4; exact x03.set (.inl (by have := x03.1; omega)) _
            have hn4 : pm < σ4.n ∧ p2 < σ4.n ∧ pm ≠ p2 := ⟨Heap.lt gm4, Heap.lt g24, by omega⟩
            have hpmn : σ.n ≤ pm := by omega
            clear hσ4 gm3 g23 x03 hn3 hp2l hpm
            have gtm4 := gm4
            simp only [MeO, MgO, mgC, mz] at gtm4
            repeat (first | (with_reducible first | refine AW.seq ?_ | refine AW.block ?_ | refine AW.skip ?_ | refine AW.ret ?_ | refine AW.exit ?_ | refine AW.reg hT ?_) | ((with_reducible refine AW.cond_true ?_ ?_); · (simp (maxSteps := 3000000) (maxDischargeDepth := 12) only [seval,push_cast,appendX,dcbl,dclm,gtm4,Heap.lt gtm4]; done)) | ((with_reducible refine AW.cond_false ?_ ?_); · (simp (maxSteps := 3000000) (maxDischargeDepth := 12) only [seval,push_cast,appendX,dcbl,dclm,gtm4,Heap.lt gtm4]; done)) | simp (maxSteps := 3000000) (maxDischargeDepth := 12) only [seval,push_cast,appendX,Try.results11,dcbl,dclm,gtm4,Heap.lt gtm4])
            refine AOpsL.call (first := []) (cap := []) hT rfl rfl rfl fn26 rfl (ACalls.mono (fields_ok _ a1) ?_)
            rintro df σ5 ⟨xt5, els, hh5, hnew5, hfd5⟩
            have gm5 := xt5.get gm4 (by simp)
            have g25 := xt5.get g24 (by simp)
            have x05 := x04.trans xt5
            clear gtm4 gm4 g24 x04
            have hlen := hfd5.len
            have hcl := fields_len a1
            have hlf : lenD T 70 df = some (els.length : Int) := hh5.len rfl
            have dnlf := hlf
            have dncl := hh5.cells
            have dnle := hh5.leaf
            have gt25 := g25
            have xt05 := x05
            have dcp2 : (σ.n ≤ p2) = True := by simp; omega
            by_cases hbad : (fieldsI a1).length ≠ l.length ∨ l.length = 0
            · have hdt : tailM b a1 a4 l = (mz 0 0, 5) := by unfold tailM; rw [if_pos hbad]
              rw [hdt] at hdec
              by_cases hll : els.length = l.length
              · have dcll : ((els.length : Int) == (l.length : Int)) = true := by simp [hll]
                have dcl0 : ((l.length : Int) == 0) = true := beq_iff_eq.2 (by omega)
                repeat (first | (with_reducible first | refine AW.seq ?_ | refine AW.block ?_ | refine AW.skip ?_ | refine AW.ret ?_ | refine AW.exit ?_ | refine AW.reg hT ?_) | ((with_reducible refine AW.cond_true ?_ ?_); · (simp (maxSteps := 3000000) (maxDischargeDepth := 12) only [seval,push_cast,appendX,dcbl,dclm,xt5.2,xt5.ltT,xt5.leT,↓dnlf,↓dncl,↓dnle,gt25,Heap.lt gt25,xt05.2,xt05.ltT,xt05.leT,dcp2,dcll,dcl0]; done)) | ((with_reducible refine AW.cond_false ?_ ?_); · (simp (maxSteps := 3000000) (maxDischargeDepth := 12) only [seval,push_cast,appendX,dcbl,dclm,xt5.2,xt5.ltT,xt5.leT,↓dnlf,↓dncl,↓dnle,gt25,Heap.lt gt25,xt05.2,xt05.ltT,xt05.leT,dcp2,dcll,dcl0]; done)) | simp (maxSteps := 3000000) (maxDischargeDepth := 12) only [seval,push_cast,appendX,Try.results11,MgO,mgC,dcbl,dclm,xt5.2,xt5.ltT,xt5.leT,↓dnlf,↓dncl,↓dnle,gt25,Heap.lt gt25,xt05.2,xt05.ltT,xt05.leT,dcp2,dcll,dcl0])
                exact ⟨_, tellsErr 5, by rw [hdec], x05.set (.inl (by omega)) _⟩
              · have dcll : ((els.length : Int) == (l.length : Int)) = false := by simp; omega
                repeat (first | (with_reducible first | refine AW.seq ?_ | refine AW.block ?_ | refine AW.skip ?_ | refine AW.ret ?_ | refine AW.exit ?_ | refine AW.reg hT ?_) | ((with_reducible refine AW.cond_true ?_ ?_); · (simp (maxSteps := 3000000) (maxDischargeDepth := 12) only [seval,push_cast,appendX,dcbl,dclm,xt5.2,xt5.ltT,xt5.leT,↓dnlf,↓dncl,↓dnle,gt25,Heap.lt gt25,xt05.2,xt05.ltT,xt05.leT,dcp2,dcll]; done)) | ((with_reducible refine AW.cond_false ?_ ?_); · (simp (maxSteps := 3000000) (maxDischargeDepth := 12) only [seval,push_cast,appendX,dcbl,dclm,xt5.2,xt5.ltT,xt5.leT,↓dnlf,↓dncl,↓dnle,gt25,Heap.lt gt25,xt05.2,xt05.ltT,xt05.leT,dcp2,dcll]; done)) | simp (maxSteps := 3000000) (maxDischargeDepth := 12) only [seval,push_cast,appendX,Try.results11,MgO,mgC,dcbl,dclm,xt5.2,xt5.ltT,xt5.leT,↓dnlf,↓dncl,↓dnle,gt25,Heap.lt gt25,xt05.2,xt05.ltT,xt05.leT,dcp2,dcll])
                exact ⟨_, tellsErr 5, by rw [hdec], x05.set (.inl (by omega)) _⟩
            · have hdt : tailM b a1 a4 l = match decL (fieldsI a1) l (mz a1 a4) with | none => (mz 0 0, 5) | some m => if encM m = (b, 0) then (m, 0) else (mz 0 0, 5) := by unfold tailM; rw [if_neg hbad]
              rw [hdt] at hdec
              have hll : els.length = l.length := by omega
              have dcll : ((els.length : Int) == (l.length : Int)) = true := by simp [hll]
              have dcl0 : ((l.length : Int) == 0) = false := by rw [beq_eq_false_iff_ne]; omega
              repeat (first | (with_reducible first | refine AW.seq ?_ | refine AW.block ?_ | refine AW.skip ?_ | refine AW.ret ?_ | refine AW.exit ?_ | refine AW.reg hT ?_) | ((with_reducible refine AW.cond_true ?_ ?_); · (simp (maxSteps := 3000000) (maxDischargeDepth := 12) only [seval,push_cast,appendX,dcbl,dclm,xt5.2,xt5.ltT,xt5.leT,↓dnlf,↓dncl,↓dnle,gt25,Heap.lt gt25,xt05.2,xt05.ltT,xt05.leT,dcp2,dcll,dcl0]; done)) | ((with_reducible refine AW.cond_false ?_ ?_); · (simp (maxSteps := 3000000) (maxDischargeDepth := 12) only [seval,push_cast,appendX,dcbl,dclm,xt5.2,xt5.ltT,xt5.leT,↓dnlf,↓dncl,↓dnle,gt25,Heap.lt gt25,xt05.2,xt05.ltT,xt05.leT,dcp2,dcll,dcl0]; done)) | simp (maxSteps := 3000000) (maxDischargeDepth := 12) only [seval,push_cast,appendX,Try.results11,dcbl,dclm,xt5.2,xt5.ltT,xt5.leT,↓dnlf,↓dncl,↓dnle,gt25,Heap.lt gt25,xt05.2,xt05.ltT,xt05.leT,dcp2,dcll,dcl0])
              refine AW.loop (dlI b a1 a4 l df els σ4.n σ5.n pm p2 σ) (m := els.length + 1) ⟨0, mz a1 a4, rfl, Nat.zero_le _, by simp, mz_wf h1 h4, gm5, g25, hh5, hfd5, x05, Nat.le_refl _, by (simp only [push_cast, TellsL, tells_any, tells_refl])⟩ ?_
              have hnN : σ4.n ≤ σ5.n := xt5.1
              have hdN := hh5.lt
              generalize σ4.n = n0 at hnew5 hn4 hnN ⊢
              generalize σ5.n = N at hdN hnN ⊢
              clear hh5 hfd5 dnlf hlf gm5 g25 gt25 x05 xt05 xt5 hdt
              rintro m ts σ6 ⟨i, w, rfl, hil, hdl, hww, gtm, gt2, hh, hfd, xt0, hn0, hts⟩
              refine AW.told hts ?_
              clear hts
              have herr : decL (fieldsI a1) l (mz a1 a4) = none → decM b = (mz 0 0, 5) := fun h => by rw [hdec, h]
              have hpm6 := Heap.lt gtm
              have hp26 := Heap.lt gt2
              by_cases hi : i < els.length
              · have hic : i < (fieldsI a1).length := by omega
                have hli : i < l.length := by omega
                obtain ⟨c, hc⟩ : ∃ c, (fieldsI a1)[i]? = some c := ⟨_, List.getElem?_eq_getElem hic⟩
                have hcc : classM c := fields_class (List.mem_of_getElem? hc)
                obtain ⟨el, hel, hfa⟩ := hfd.at_ hc
                obtain ⟨f1, f2, cap1, cap2, rfl, hf1, hf2, hcl2⟩ := hfa
                obtain ⟨t, full, rfl, gtt, hfi⟩ := hh.at_ hi
                have dcfi : full[i]? = some [.sc (.int .i64 c), .fn (.func f1) [] cap1, .fn (.func f2) [] cap2] := by
                  rw [hfi]; rw [List.getElem?_eq_getElem hi] at hel; exact hel
                obtain ⟨o, ho2⟩ : ∃ o, l[i]? = some o := ⟨_, List.getElem?_eq_getElem hli⟩
                obtain ⟨hmo, hoo⟩ := hobs o (List.mem_of_getElem? ho2)
                have hel2 : (l.map eO)[i]? = some (eO o) := by rw [List.getElem?_map, ho2]; rfl
                rw [eO_eq] at hel2
                have dcel := hel2
                have dci : decide ((i : Int) < (els.length : Int)) = true := by simp; omega
                have dci2 : ((i : Int) < (els.length : Int)) = True := by simp; omega
                have dci3 : ((i : Int) < (l.length : Int)) = True := by simp; omega
                have dci0 : ((0 : Int) ≤ (i : Int)) = True := by simp
                have dcw : IntKind.i64.wrap ((i : Int) + 1) = (i : Int) + 1 := wrap_i64 (by omega) (by omega)
                have htn : n0 ≤ t := hnew5 t (by simp [tOf])
                have hdr1 : (fieldsI a1).drop i = c :: (fieldsI a1).drop (i + 1) := by
                  rw [List.drop_eq_getElem_cons hic]; rw [List.getElem?_eq_getElem hic] at hc; rw [Option.some.inj hc]
                have hdr2 : l.drop i = o :: l.drop (i + 1) := by
                  rw [List.drop_eq_getElem_cons hli]; rw [List.getElem?_eq_getElem hli] at ho2; rw [Option.some.inj ho2]
                rw [hdr1, hdr2, decL] at hdl
                have hoc : -9223372036854775808 ≤ o.f0 ∧ o.f0 ≤ 9223372036854775807 := ⟨by have := hmo.1.1; omega, by have := hmo.1.2; omega⟩
                have hU := fun σ' => unpackI_ok σ' (c := o.f0) (k := o.f1) (d := .imm (bytesD o.f2)) (b := o.f2) rfl rfl (Src.imm _ _) hoo (by have := hmo.2.2.1; omega) hoc
                obtain ⟨x, M, e2, hun, hcase⟩ := unp_cases o.f0 o.f1 hoo
                rw [hun] at hdl hU
                simp only at hdl hU
                repeat (first | (with_reducible first | refine AW.seq ?_ | refine AW.block ?_ | refine AW.skip ?_ | refine AW.ret ?_ | refine AW.exit ?_ | refine AW.reg hT ?_) | ((with_reducible refine AW.cond_true ?_ ?_); · (simp (maxSteps := 3000000) (maxDischargeDepth := 12) only [seval,push_cast,appendX,dcbl,dclm,↓dncl,↓dnle,dcp2,dcll,dcl0,gtm,Heap.lt gtm,gt2,Heap.lt gt2,xt0.2,xt0.ltT,xt0.leT,gtt,Heap.lt gtt,dcfi,dcel,dci,dci2,dci3,dci0,dcw]; done)) | ((with_reducible refine AW.cond_false ?_ ?_); · (simp (maxSteps := 3000000) (maxDischargeDepth := 12) only [seval,push_cast,appendX,dcbl,dclm,↓dncl,↓dnle,dcp2,dcll,dcl0,gtm,Heap.lt gtm,gt2,Heap.lt gt2,xt0.2,xt0.ltT,xt0.leT,gtt,Heap.lt gtt,dcfi,dcel,dci,dci2,dci3,dci0,dcw]; done)) | simp (maxSteps := 3000000) (maxDischargeDepth := 12) only [seval,push_cast,appendX,Try.results11,dcbl,dclm,↓dncl,↓dnle,dcp2,dcll,dcl0,gtm,Heap.lt gtm,gt2,Heap.lt gt2,xt0.2,xt0.ltT,xt0.leT,gtt,Heap.lt gtt,dcfi,dcel,dci,dci2,dci3,dci0,dcw])
                refine AOpsL.call (first := []) (cap := []) hT rfl rfl rfl fn27 rfl (ACalls.mono (hU _) ?_)
                rintro y σ7 ⟨rfl, xt7⟩
                have g97 : σ7.get σ6.n = some ⟨[[.sc (.int .i64 c), .fn (.func f1) [] cap1, .fn (.func f2) [] cap2]], 75, true⟩ := xt7.get (by simp (maxSteps := 3000000) (maxDischargeDepth := 12) only [push_cast, appendX, Nat.reduceAdd, Nat.reduceEqDiff, Nat.reduceLT, Nat.reduceLeDiff, reduceIte, reduceCtorEq, dcbl, dclm, ↓dncl, ↓dnle, dcp2, dcll, dcl0, gtm, Heap.lt gtm, gt2, Heap.lt gt2, xt0.2, xt0.ltT, xt0.leT, gtt, Heap.lt gtt, dcfi, dcel, dci, dci2, dci3, dci0, dcw, xt7.2, xt7.ltT, xt7.leT]) (by simp)
                have g27 : σ7.get p2 = some (MgO (mz 0 0).m nilS nilS) := xt7.get (by simp (maxSteps := 3000000) (maxDischargeDepth := 12) only [push_cast, appendX, Nat.reduceAdd, Nat.reduceEqDiff, Nat.reduceLT, Nat.reduceLeDiff, reduceIte, reduceCtorEq, dcbl, dclm, ↓dncl, ↓dnle, dcp2, dcll, dcl0, gtm, Heap.lt gtm, gt2, Heap.lt gt2, xt0.2, xt0.ltT, xt0.leT, gtt, Heap.lt gtt, dcfi, dcel, dci, dci2, dci3, dci0, dcw, xt7.2, xt7.ltT, xt7.leT]) (by simp)
                have gm7 : σ7.get pm = some (MeO w) := xt7.get (by simp (maxSteps := 3000000) (maxDischargeDepth := 12) only [push_cast, appendX, Nat.reduceAdd, Nat.reduceEqDiff, Nat.reduceLT, Nat.reduceLeDiff, reduceIte, reduceCtorEq, dcbl, dclm, ↓dncl, ↓dnle, dcp2, dcll, dcl0, gtm, Heap.lt gtm, gt2, Heap.lt gt2, xt0.2, xt0.ltT, xt0.leT, gtt, Heap.lt gtt, dcfi, dcel, dci, dci2, dci3, dci0, dcw, xt7.2, xt7.ltT, xt7.leT]) (by simp)
                have x67 : Ext [] σ6 σ7 := by repeat (first | exact Ext.refl _ _ | assumption | refine Ext.push ?_ _ | ((refine Ext.set ?_ ?_ _); rotate_left; · (simp (maxSteps := 3000000) (maxDischargeDepth := 12) only [push_cast, appendX, Nat.reduceAdd, Nat.reduceEqDiff, Nat.reduceLT, Nat.reduceLeDiff, reduceIte, reduceCtorEq, dcbl, dclm, ↓dncl, ↓dnle, dcp2, dcll, dcl0, gtm, Heap.lt gtm, gt2, Heap.lt gt2, xt0.2, xt0.ltT, xt0.leT, gtt, Heap.lt gtt, dcfi, dcel, dci, dci2, dci3, dci0, dcw, xt7.2, xt7.ltT, xt7.leT])) | ((refine Ext.then1 (by assumption) ?_ ?_); rotate_left; · (intro p hp _; first | assumption | exact List.mem_cons_of_mem _ hp | (cases hp; done) | (simp at hp; subst hp; simp))))
                have gt97 := g97
                have gt27 := g27
                have gtm7 := gm7
                have xt07 := xt0.trans x67
                clear xt7
                rcases hcase.symm with ⟨rfl, rfl, rfl⟩ | ⟨rfl, hmay, hxc, hk, hbd⟩
                · have dc50 : ((5 : Int) == 0) = false := rfl
                  rw [if_neg (by simp)] at hdl
                  repeat (first | (with_reducible first | refine AW.seq ?_ | refine AW.block ?_ | refine AW.skip ?_ | refine AW.ret ?_ | refine AW.exit ?_ | refine AW.reg hT ?_) | ((with_reducible refine AW.cond_true ?_ ?_); · (simp (maxSteps := 3000000) (maxDischargeDepth := 12) only [seval,push_cast,appendX,dcbl,dclm,↓dncl,↓dnle,dcp2,dcll,dcl0,gtm,Heap.lt gtm,gt2,Heap.lt gt2,xt0.2,xt0.ltT,xt0.leT,gtt,Heap.lt gtt,dcfi,dcel,dci,dci2,dci3,dci0,dcw,gt97,Heap.lt gt97,gt27,Heap.lt gt27,gtm7,Heap.lt gtm7,xt07.2,xt07.ltT,xt07.leT,dc50]; done)) | ((with_reducible refine AW.cond_false ?_ ?_); · (simp (maxSteps := 3000000) (maxDischargeDepth := 12) only [seval,push_cast,appendX,dcbl,dclm,↓dncl,↓dnle,dcp2,dcll,dcl0,gtm,Heap.lt gtm,gt2,Heap.lt gt2,xt0.2,xt0.ltT,xt0.leT,gtt,Heap.lt gtt,dcfi,dcel,dci,dci2,dci3,dci0,dcw,gt97,Heap.lt gt97,gt27,Heap.lt gt27,gtm7,Heap.lt gtm7,xt07.2,xt07.ltT,xt07.leT,dc50]; done)) | simp (maxSteps := 3000000) (maxDischargeDepth := 12) only [seval,push_cast,appendX,Try.results11,itC,zF,MgO,mgC,dcbl,dclm,↓dncl,↓dnle,dcp2,dcll,dcl0,gtm,Heap.lt gtm,gt2,Heap.lt gt2,xt0.2,xt0.ltT,xt0.leT,gtt,Heap.lt gtt,dcfi,dcel,dci,dci2,dci3,dci0,dcw,gt97,Heap.lt gt97,gt27,Heap.lt gt27,gtm7,Heap.lt gtm7,xt07.2,xt07.ltT,xt07.leT,dc50])
                  exact ⟨_, tellsErr 5, by rw [herr hdl], by repeat (first | exact Ext.refl _ _ | assumption | refine Ext.push ?_ _ | ((refine Ext.set ?_ ?_ _); rotate_left; · (simp (maxSteps := 3000000) (maxDischargeDepth := 12) only [push_cast, appendX, Nat.reduceAdd, Nat.reduceEqDiff, Nat.reduceLT, Nat.reduceLeDiff, reduceIte, reduceCtorEq, dcbl, dclm, ↓dncl, ↓dnle, dcp2, dcll, dcl0, gtm, Heap.lt gtm, gt2, Heap.lt gt2, xt0.2, xt0.ltT, xt0.leT, gtt, Heap.lt gtt, dcfi, dcel, dci, dci2, dci3, dci0, dcw, gt97, Heap.lt gt97, gt27, Heap.lt gt27, gtm7, Heap.lt gtm7, xt07.2, xt07.ltT, xt07.leT, dc50])) | ((refine Ext.then1 (by assumption) ?_ ?_); rotate_left; · (intro p hp _; first | assumption | exact List.mem_cons_of_mem _ hp | (cases hp; done) | (simp at hp; subst hp; simp))))⟩
                · repeat ((fail_if_success (with_reducible refine AW.at1 (id := 20) ?_)); (fail_if_success (with_reducible refine AW.at2 (id := 20) ?_)); first | (with_reducible first | refine AW.seq ?_ | refine AW.block ?_ | refine AW.skip ?_ | refine AW.ret ?_ | refine AW.exit ?_ | refine AW.reg hT ?_) | ((with_reducible refine AW.cond_true ?_ ?_); · (simp (maxSteps := 3000000) (maxDischargeDepth := 12) only [seval,push_cast,appendX,dcbl,dclm,↓dncl,↓dnle,dcp2,dcll,dcl0,gtm,Heap.lt gtm,gt2,Heap.lt gt2,xt0.2,xt0.ltT,xt0.leT,gtt,Heap.lt gtt,dcfi,dcel,dci,dci2,dci3,dci0,dcw,gt97,Heap.lt gt97,gt27,Heap.lt gt27,gtm7,Heap.lt gtm7,xt07.2,xt07.ltT,xt07.leT]; done)) | ((with_reducible refine AW.cond_false ?_ ?_); · (simp (maxSteps := 3000000) (maxDischargeDepth := 12) only [seval,push_cast,appendX,dcbl,dclm,↓dncl,↓dnle,dcp2,dcll,dcl0,gtm,Heap.lt gtm,gt2,Heap.lt gt2,xt0.2,xt0.ltT,xt0.leT,gtt,Heap.lt gtt,dcfi,dcel,dci,dci2,dci3,dci0,dcw,gt97,Heap.lt gt97,gt27,Heap.lt gt27,gtm7,Heap.lt gtm7,xt07.2,xt07.ltT,xt07.leT]; done)) | simp (maxSteps := 3000000) (maxDischargeDepth := 12) only [seval,push_cast,appendX,Try.results11,itC,dcbl,dclm,↓dncl,↓dnle,dcp2,dcll,dcl0,gtm,Heap.lt gtm,gt2,Heap.lt gt2,xt0.2,xt0.ltT,xt0.leT,gtt,Heap.lt gtt,dcfi,dcel,dci,dci2,dci3,dci0,dcw,gt97,Heap.lt gt97,gt27,Heap.lt gt27,gtm7,Heap.lt gtm7,xt07.2,xt07.ltT,xt07.leT])
                  refine AW.name (fun σ8 hσ8 => ?_)
                  have g98 : σ8.get σ6.n = some ⟨[[.sc (.int .i64 c), .fn (.func f1) [] cap1, .fn (.func f2) [] cap2]], 75, true⟩ := by subst hσ8; simp (maxSteps := 3000000) (maxDischargeDepth := 12) only [push_cast, appendX, Nat.reduceAdd, Nat.reduceEqDiff, Nat.reduceLT, Nat.reduceLeDiff, reduceIte, reduceCtorEq, dcbl, dclm, ↓dncl, ↓dnle, dcp2, dcll, dcl0, gtm, Heap.lt gtm, gt2, Heap.lt gt2, xt0.2, xt0.ltT, xt0.leT, gtt, Heap.lt gtt, dcfi, dcel, dci, dci2, dci3, dci0, dcw, gt97, Heap.lt gt97, gt27, Heap.lt gt27, gtm7, Heap.lt gtm7, xt07.2, xt07.ltT, xt07.leT]
                  have g28 : σ8.get p2 = some (MgO (mz 0 0).m nilS nilS) := by subst hσ8; simp (maxSteps := 3000000) (maxDischargeDepth := 12) only [push_cast, appendX, Nat.reduceAdd, Nat.reduceEqDiff, Nat.reduceLT, Nat.reduceLeDiff, reduceIte, reduceCtorEq, dcbl, dclm, ↓dncl, ↓dnle, dcp2, dcll, dcl0, gtm, Heap.lt gtm, gt2, Heap.lt gt2, xt0.2, xt0.ltT, xt0.leT, gtt, Heap.lt gtt, dcfi, dcel, dci, dci2, dci3, dci0, dcw, gt97, Heap.lt gt97, gt27, Heap.lt gt27, gtm7, Heap.lt gtm7, xt07.2, xt07.ltT, xt07.leT]
                  have gm8 : σ8.get pm = some (MeO w) := by subst hσ8; simp (maxSteps := 3000000) (maxDischargeDepth := 12) only [push_cast, appendX, Nat.reduceAdd, Nat.reduceEqDiff, Nat.reduceLT, Nat.reduceLeDiff, reduceIte, reduceCtorEq, dcbl, dclm, ↓dncl, ↓dnle, dcp2, dcll, dcl0, gtm, Heap.lt gtm, gt2, Heap.lt gt2, xt0.2, xt0.ltT, xt0.leT, gtt, Heap.lt gtt, dcfi, dcel, dci, dci2, dci3, dci0, dcw, gt97, Heap.lt gt97, gt27, Heap.lt gt27, gtm7, Heap.lt gtm7, xt07.2, xt07.ltT, xt07.leT]
                  have gx8 : σ8.get σ7.n = some (ItO x (.imm (M.map eI))) := by subst hσ8; simp (maxSteps := 3000000) (maxDischargeDepth := 12) only [push_cast, appendX, Nat.reduceAdd, Nat.reduceEqDiff, Nat.reduceLT, Nat.reduceLeDiff, reduceIte, reduceCtorEq, ItO, itC, dcbl, dclm, ↓dncl, ↓dnle, dcp2, dcll, dcl0, gtm, Heap.lt gtm, gt2, Heap.lt gt2, xt0.2, xt0.ltT, xt0.leT, gtt, Heap.lt gtt, dcfi, dcel, dci, dci2, dci3, dci0, dcw, gt97, Heap.lt gt97, gt27, Heap.lt gt27, gtm7, Heap.lt gtm7, xt07.2, xt07.ltT, xt07.leT]
                  have x78 : Ext [] σ7 σ8 := by subst hσ8; repeat (first | exact Ext.refl _ _ | assumption | refine Ext.push ?_ _ | ((refine Ext.set ?_ ?_ _); rotate_left; · (simp (maxSteps := 3000000) (maxDischargeDepth := 12) only [push_cast, appendX, Nat.reduceAdd, Nat.reduceEqDiff, Nat.reduceLT, Nat.reduceLeDiff, reduceIte, reduceCtorEq, dcbl, dclm, ↓dncl, ↓dnle, dcp2, dcll, dcl0, gtm, Heap.lt gtm, gt2, Heap.lt gt2, xt0.2, xt0.ltT, xt0.leT, gtt, Heap.lt gtt, dcfi, dcel, dci, dci2, dci3, dci0, dcw, gt97, Heap.lt gt97, gt27, Heap.lt gt27, gtm7, Heap.lt gtm7, xt07.2, xt07.ltT, xt07.leT])) | ((refine Ext.then1 (by assumption) ?_ ?_); rotate_left; · (intro p hp _; first | assumption | exact List.mem_cons_of_mem _ hp | (cases hp; done) | (simp at hp; subst hp; simp))))
                  clear hσ8 gt97 gt27 gtm7
                  have gt98 := g98
                  have gt28 := g28
                  have gtx8 := gx8
                  have x68 := x67.trans x78
                  have xt08 := xt0.trans x68
                  clear xt07
                  by_cases hcl3 : ¬ x.cls = c
                  · have dcc : (x.cls == c) = false := by simpa using hcl3
                    rw [if_neg (fun h => hcl3 h.2)] at hdl
                    repeat (first | (with_reducible first | refine AW.seq ?_ | refine AW.block ?_ | refine AW.skip ?_ | refine AW.ret ?_ | refine AW.exit ?_ | refine AW.reg hT ?_) | ((with_reducible refine AW.cond_true ?_ ?_); · (simp (maxSteps := 3000000) (maxDischargeDepth := 12) only [seval,push_cast,appendX,dcbl,dclm,↓dncl,↓dnle,dcp2,dcll,dcl0,gtm,Heap.lt gtm,gt2,Heap.lt gt2,xt0.2,xt0.ltT,xt0.leT,gtt,Heap.lt gtt,dcfi,dcel,dci,dci2,dci3,dci0,dcw,gt98,Heap.lt gt98,gt28,Heap.lt gt28,gtx8,Heap.lt gtx8,xt08.2,xt08.ltT,xt08.leT,dcc]; done)) | ((with_reducible refine AW.cond_false ?_ ?_); · (simp (maxSteps := 3000000) (maxDischargeDepth := 12) only [seval,push_cast,appendX,dcbl,dclm,↓dncl,↓dnle,dcp2,dcll,dcl0,gtm,Heap.lt gtm,gt2,Heap.lt gt2,xt0.2,xt0.ltT,xt0.leT,gtt,Heap.lt gtt,dcfi,dcel,dci,dci2,dci3,dci0,dcw,gt98,Heap.lt gt98,gt28,Heap.lt gt28,gtx8,Heap.lt gtx8,xt08.2,xt08.ltT,xt08.leT,dcc]; done)) | simp (maxSteps := 3000000) (maxDischargeDepth := 12) only [seval,push_cast,appendX,Try.results11,ItO,itC,MgO,mgC,dcbl,dclm,↓dncl,↓dnle,dcp2,dcll,dcl0,gtm,Heap.lt gtm,gt2,Heap.lt gt2,xt0.2,xt0.ltT,xt0.leT,gtt,Heap.lt gtt,dcfi,dcel,dci,dci2,dci3,dci0,dcw,gt98,Heap.lt gt98,gt28,Heap.lt gt28,gtx8,Heap.lt gtx8,xt08.2,xt08.ltT,xt08.leT,dcc])
                    exact ⟨_, tellsErr 5, by rw [herr hdl], xt08.set (.inl (by omega)) _⟩
                  · have hcl3 := Decidable.not_not.1 hcl3
                    have dcc : (x.cls == c) = true := by simpa using hcl3
                    rw [if_pos ⟨rfl, hcl3⟩] at hdl
                    have hxi : i64r x.cls := by rw [hxc]; exact hoc
                    have hu : c = 5 ∨ c = 23 → 0 ≤ x.u ∧ x.u ≤ 4294967295 := fun h => may_u hxi hmay (by rw [hcl3]; exact h)
                    have hww2 := mtake_wf (c := c) (L := M) hcc hww (may_wf hxi hmay) (fun h => (hu h).2) (by have := may_len hmay; omega)
                    obtain ⟨_, htak⟩ := hcl2 [] σ8 (by simp) x68
                    have htake := htak pm w x M gm8 (fun h => ⟨(hu h).1, by have := (hu h).2; omega⟩)
                    clear htak
                    repeat (first | (with_reducible first | refine AW.seq ?_ | refine AW.block ?_ | refine AW.skip ?_ | refine AW.ret ?_ | refine AW.exit ?_ | refine AW.reg hT ?_) | ((with_reducible refine AW.cond_true ?_ ?_); · (simp (maxSteps := 3000000) (maxDischargeDepth := 12) only [seval,push_cast,appendX,dcbl,dclm,↓dncl,↓dnle,dcp2,dcll,dcl0,gtm,Heap.lt gtm,gt2,Heap.lt gt2,xt0.2,xt0.ltT,xt0.leT,gtt,Heap.lt gtt,dcfi,dcel,dci,dci2,dci3,dci0,dcw,gt98,Heap.lt gt98,gt28,Heap.lt gt28,gtx8,Heap.lt gtx8,xt08.2,xt08.ltT,xt08.leT,dcc]; done)) | ((with_reducible refine AW.cond_false ?_ ?_); · (simp (maxSteps := 3000000) (maxDischargeDepth := 12) only [seval,push_cast,appendX,dcbl,dclm,↓dncl,↓dnle,dcp2,dcll,dcl0,gtm,Heap.lt gtm,gt2,Heap.lt gt2,xt0.2,xt0.ltT,xt0.leT,gtt,Heap.lt gtt,dcfi,dcel,dci,dci2,dci3,dci0,dcw,gt98,Heap.lt gt98,gt28,Heap.lt gt28,gtx8,Heap.lt gtx8,xt08.2,xt08.ltT,xt08.leT,dcc]; done)) | simp (maxSteps := 3000000) (maxDischargeDepth := 12) only [seval,push_cast,appendX,Try.results11,ItO,itC,dcbl,dclm,↓dncl,↓dnle,dcp2,dcll,dcl0,gtm,Heap.lt gtm,gt2,Heap.lt gt2,xt0.2,xt0.ltT,xt0.leT,gtt,Heap.lt gtt,dcfi,dcel,dci,dci2,dci3,dci0,dcw,gt98,Heap.lt gt98,gt28,Heap.lt gt28,gtx8,Heap.lt gtx8,xt08.2,xt08.ltT,xt08.leT,dcc])
                    refine AOpsL.call (first := []) (cap := cap2) hT rfl rfl rfl hf2 rfl (ACalls.mono htake ?_)
                    rintro y σ9 ⟨rfl, gtm9, xt9⟩
                    repeat (first | (with_reducible first | refine AW.seq ?_ | refine AW.block ?_ | refine AW.skip ?_ | refine AW.ret ?_ | refine AW.exit ?_ | refine AW.reg hT ?_) | ((with_reducible refine AW.cond_true ?_ ?_); · (simp (maxSteps := 3000000) (maxDischargeDepth := 12) only [seval,push_cast,appendX,dcbl,dclm,↓dncl,↓dnle,dcp2,dcll,dcl0,gtm,Heap.lt gtm,gt2,Heap.lt gt2,xt0.2,xt0.ltT,xt0.leT,gtt,Heap.lt gtt,dcfi,dcel,dci,dci2,dci3,dci0,dcw,gt98,Heap.lt gt98,gt28,Heap.lt gt28,gtx8,Heap.lt gtx8,xt08.2,xt08.ltT,xt08.leT,dcc,gtm9,Heap.lt gtm9,xt9.2,xt9.ltT,xt9.leT]; done)) | ((with_reducible refine AW.cond_false ?_ ?_); · (simp (maxSteps := 3000000) (maxDischargeDepth := 12) only [seval,push_cast,appendX,dcbl,dclm,↓dncl,↓dnle,dcp2,dcll,dcl0,gtm,Heap.lt gtm,gt2,Heap.lt gt2,xt0.2,xt0.ltT,xt0.leT,gtt,Heap.lt gtt,dcfi,dcel,dci,dci2,dci3,dci0,dcw,gt98,Heap.lt gt98,gt28,Heap.lt gt28,gtx8,Heap.lt gtx8,xt08.2,xt08.ltT,xt08.leT,dcc,gtm9,Heap.lt gtm9,xt9.2,xt9.ltT,xt9.leT]; done)) | simp (maxSteps := 3000000) (maxDischargeDepth := 12) only [seval,push_cast,appendX,Try.results11,dcbl,dclm,↓dncl,↓dnle,dcp2,dcll,dcl0,gtm,Heap.lt gtm,gt2,Heap.lt gt2,xt0.2,xt0.ltT,xt0.leT,gtt,Heap.lt gtt,dcfi,dcel,dci,dci2,dci3,dci0,dcw,gt98,Heap.lt gt98,gt28,Heap.lt gt28,gtx8,Heap.lt gtx8,xt08.2,xt08.ltT,xt08.leT,dcc,gtm9,Heap.lt gtm9,xt9.2,xt9.ltT,xt9.leT])
                    have hicc : (((i + 1 : Nat)) : Int) = (i : Int) + 1 := by omega
                    have x69 : Ext [pm] σ6 σ9 := (x68.mono (by simp)).trans xt9
                    refine ⟨els.length + 1 - (i + 1), by omega, i + 1, mtake c w x M, rfl, hi, hdl, hww2, gtm9, xt9.get g28 (by simp; omega), hh.frame x69 ?_, FdsAt.frame ?_ x69 hfd, (xt0.trans x68).then xt9 ?_, ?_, by (simp only [push_cast, TellsL, tells_any, tells_refl, hicc])⟩
                    · intro q hq hm
                      simp [tOf] at hq hm
                      omega
                    · intro q hq
                      simp at hq; omega
                    · intro q hq hl; simp at hq; omega
                    · have := x69.1; omega
              · have dci : decide ((i : Int) < (els.length : Int)) = false := by simp; omega
                have he2 : i = els.length := by omega
                have hd0 : (fieldsI a1).drop i = [] := List.drop_eq_nil_of_le (by omega)
                have hdl2 : decL (fieldsI a1) l (mz a1 a4) = some w := by rw [hdl, hd0]; rfl
                rw [hdl2] at hdec
                simp only at hdec
                have hE := fun σ' => mencI_ok σ' (z := w) hww
                by_cases hmw : mayM w
                · simp only [encM_yes hmw] at hE
                  rw [encM_yes hmw] at hdec
                  have dcst := str_eq (sealM_octs hmw) ho
                  by_cases hsb : ¬ sealM w = b
                  · rw [decide_eq_false hsb] at dcst
                    simp only [Prod.mk.injEq, hsb, false_and, if_false] at hdec
                    repeat (first | (with_reducible first | refine AW.seq ?_ | refine AW.block ?_ | refine AW.skip ?_ | refine AW.ret ?_ | refine AW.exit ?_ | refine AW.reg hT ?_) | ((with_reducible refine AW.cond_true ?_ ?_); · (simp (maxSteps := 3000000) (maxDischargeDepth := 12) only [seval,push_cast,appendX,dcbl,dclm,↓dncl,↓dnle,dcp2,dcll,dcl0,gtm,Heap.lt gtm,gt2,Heap.lt gt2,xt0.2,xt0.ltT,xt0.leT,dci,dcst]; done)) | ((with_reducible refine AW.cond_false ?_ ?_); · (simp (maxSteps := 3000000) (maxDischargeDepth := 12) only [seval,push_cast,appendX,dcbl,dclm,↓dncl,↓dnle,dcp2,dcll,dcl0,gtm,Heap.lt gtm,gt2,Heap.lt gt2,xt0.2,xt0.ltT,xt0.leT,dci,dcst]; done)) | simp (maxSteps := 3000000) (maxDischargeDepth := 12) only [seval,push_cast,appendX,Try.results11,MeO,MgO,mgC,dcbl,dclm,↓dncl,↓dnle,dcp2,dcll,dcl0,gtm,Heap.lt gtm,gt2,Heap.lt gt2,xt0.2,xt0.ltT,xt0.leT,dci,dcst])
                    refine AOpsL.call (first := []) (cap := []) hT rfl rfl rfl fn8 rfl (ACalls.mono (hE _) ?_)
                    rintro y σ7 ⟨rfl, xt7⟩
                    have gt27 := xt7.get gt2 (by simp)
                    repeat (first | (with_reducible first | refine AW.seq ?_ | refine AW.block ?_ | refine AW.skip ?_ | refine AW.ret ?_ | refine AW.exit ?_ | refine AW.reg hT ?_) | ((with_reducible refine AW.cond_true ?_ ?_); · (simp (maxSteps := 3000000) (maxDischargeDepth := 12) only [seval,push_cast,appendX,dcbl,dclm,↓dncl,↓dnle,dcp2,dcll,dcl0,gtm,Heap.lt gtm,gt2,Heap.lt gt2,xt0.2,xt0.ltT,xt0.leT,dci,dcst,xt7.2,xt7.ltT,xt7.leT,gt27,Heap.lt gt27]; done)) | ((with_reducible refine AW.cond_false ?_ ?_); · (simp (maxSteps := 3000000) (maxDischargeDepth := 12) only [seval,push_cast,appendX,dcbl,dclm,↓dncl,↓dnle,dcp2,dcll,dcl0,gtm,Heap.lt gtm,gt2,Heap.lt gt2,xt0.2,xt0.ltT,xt0.leT,dci,dcst,xt7.2,xt7.ltT,xt7.leT,gt27,Heap.lt gt27]; done)) | simp (maxSteps := 3000000) (maxDischargeDepth := 12) only [seval,push_cast,appendX,Try.results11,MgO,mgC,dcbl,dclm,↓dncl,↓dnle,dcp2,dcll,dcl0,gtm,Heap.lt gtm,gt2,Heap.lt gt2,xt0.2,xt0.ltT,xt0.leT,dci,dcst,xt7.2,xt7.ltT,xt7.leT,gt27,Heap.lt gt27])
                    exact ⟨_, tellsErr 5, by rw [hdec], (xt0.trans xt7).set (.inl (by omega)) _⟩
                  · have hsb := Decidable.not_not.1 hsb
                    rw [decide_eq_true hsb] at dcst
                    simp only [Prod.mk.injEq, hsb, true_and, if_true] at hdec
                    repeat (first | (with_reducible first | refine AW.seq ?_ | refine AW.block ?_ | refine AW.skip ?_ | refine AW.ret ?_ | refine AW.exit ?_ | refine AW.reg hT ?_) | ((with_reducible refine AW.cond_true ?_ ?_); · (simp (maxSteps := 3000000) (maxDischargeDepth := 12) only [seval,push_cast,appendX,dcbl,dclm,↓dncl,↓dnle,dcp2,dcll,dcl0,gtm,Heap.lt gtm,gt2,Heap.lt gt2,xt0.2,xt0.ltT,xt0.leT,dci,dcst]; done)) | ((with_reducible refine AW.cond_false ?_ ?_); · (simp (maxSteps := 3000000) (maxDischargeDepth := 12) only [seval,push_cast,appendX,dcbl,dclm,↓dncl,↓dnle,dcp2,dcll,dcl0,gtm,Heap.lt gtm,gt2,Heap.lt gt2,xt0.2,xt0.ltT,xt0.leT,dci,dcst]; done)) | simp (maxSteps := 3000000) (maxDischargeDepth := 12) only [seval,push_cast,appendX,Try.results11,MeO,MgO,mgC,dcbl,dclm,↓dncl,↓dnle,dcp2,dcll,dcl0,gtm,Heap.lt gtm,gt2,Heap.lt gt2,xt0.2,xt0.ltT,xt0.leT,dci,dcst])
                    refine AOpsL.call (first := []) (cap := []) hT rfl rfl rfl fn8 rfl (ACalls.mono (hE _) ?_)
                    rintro y σ7 ⟨rfl, xt7⟩
                    have gt27 := xt7.get gt2 (by simp)
                    have gtm7 := xt7.get gtm (by simp)
                    repeat (first | (with_reducible first | refine AW.seq ?_ | refine AW.block ?_ | refine AW.skip ?_ | refine AW.ret ?_ | refine AW.exit ?_ | refine AW.reg hT ?_) | ((with_reducible refine AW.cond_true ?_ ?_); · (simp (maxSteps := 3000000) (maxDischargeDepth := 12) only [seval,push_cast,appendX,dcbl,dclm,↓dncl,↓dnle,dcp2,dcll,dcl0,gtm,Heap.lt gtm,gt2,Heap.lt gt2,xt0.2,xt0.ltT,xt0.leT,dci,dcst,xt7.2,xt7.ltT,xt7.leT,gt27,Heap.lt gt27,gtm7,Heap.lt gtm7]; done)) | ((with_reducible refine AW.cond_false ?_ ?_); · (simp (maxSteps := 3000000) (maxDischargeDepth := 12) only [seval,push_cast,appendX,dcbl,dclm,↓dncl,↓dnle,dcp2,dcll,dcl0,gtm,Heap.lt gtm,gt2,Heap.lt gt2,xt0.2,xt0.ltT,xt0.leT,dci,dcst,xt7.2,xt7.ltT,xt7.leT,gt27,Heap.lt gt27,gtm7,Heap.lt gtm7]; done)) | simp (maxSteps := 3000000) (maxDischargeDepth := 12) only [seval,push_cast,appendX,Try.results11,MeO,MgO,mgC,dcbl,dclm,↓dncl,↓dnle,dcp2,dcll,dcl0,gtm,Heap.lt gtm,gt2,Heap.lt gt2,xt0.2,xt0.ltT,xt0.leT,dci,dcst,xt7.2,xt7.ltT,xt7.leT,gt27,Heap.lt gt27,gtm7,Heap.lt gtm7])
                    exact ⟨_, Tells.refl _, by rw [hdec]; rfl, (xt0.trans xt7).set (.inl (by omega)) _⟩
                · simp only [encM_no hmw] at hE
                  rw [encM_no hmw] at hdec
                  have dc20 : ((2 : Int) == 0) = false := rfl
                  have hne : ¬ (([] : List Int), (2 : Int)) = (b, 0) := fun h => by cases h
                  rw [if_neg hne] at hdec
                  repeat (first | (with_reducible first | refine AW.seq ?_ | refine AW.block ?_ | refine AW.skip ?_ | refine AW.ret ?_ | refine AW.exit ?_ | refine AW.reg hT ?_) | ((with_reducible refine AW.cond_true ?_ ?_); · (simp (maxSteps := 3000000) (maxDischargeDepth := 12) only [seval,push_cast,appendX,dcbl,dclm,↓dncl,↓dnle,dcp2,dcll,dcl0,gtm,Heap.lt gtm,gt2,Heap.lt gt2,xt0.2,xt0.ltT,xt0.leT,dci,dc20]; done)) | ((with_reducible refine AW.cond_false ?_ ?_); · (simp (maxSteps := 3000000) (maxDischargeDepth := 12) only [seval,push_cast,appendX,dcbl,dclm,↓dncl,↓dnle,dcp2,dcll,dcl0,gtm,Heap.lt gtm,gt2,Heap.lt gt2,xt0.2,xt0.ltT,xt0.leT,dci,dc20]; done)) | simp (maxSteps := 3000000) (maxDischargeDepth := 12) only [seval,push_cast,appendX,Try.results11,MeO,MgO,mgC,dcbl,dclm,↓dncl,↓dnle,dcp2,dcll,dcl0,gtm,Heap.lt gtm,gt2,Heap.lt gt2,xt0.2,xt0.ltT,xt0.leT,dci,dc20])
                  refine AOpsL.call (first := []) (cap := []) hT rfl rfl rfl fn8 rfl (ACalls.mono (hE _) ?_)
                  rintro y σ7 ⟨rfl, xt7⟩
                  have gt27 := xt7.get gt2 (by simp)
                  repeat (first | (with_reducible first | refine AW.seq ?_ | refine AW.block ?_ | refine AW.skip ?_ | refine AW.ret ?_ | refine AW.exit ?_ | refine AW.reg hT ?_) | ((with_reducible refine AW.cond_true ?_ ?_); · (simp (maxSteps := 3000000) (maxDischargeDepth := 12) only [seval,push_cast,appendX,dcbl,dclm,↓dncl,↓dnle,dcp2,dcll,dcl0,gtm,Heap.lt gtm,gt2,Heap.lt gt2,xt0.2,xt0.ltT,xt0.leT,dci,dc20,xt7.2,xt7.ltT,xt7.leT,gt27,Heap.lt gt27]; done)) | ((with_reducible refine AW.cond_false ?_ ?_); · (simp (maxSteps := 3000000) (maxDischargeDepth := 12) only [seval,push_cast,appendX,dcbl,dclm,↓dncl,↓dnle,dcp2,dcll,dcl0,gtm,Heap.lt gtm,gt2,Heap.lt gt2,xt0.2,xt0.ltT,xt0.leT,dci,dc20,xt7.2,xt7.ltT,xt7.leT,gt27,Heap.lt gt27]; done)) | simp (maxSteps := 3000000) (maxDischargeDepth := 12) only [seval,push_cast,appendX,Try.results11,MgO,mgC,dcbl,dclm,↓dncl,↓dnle,dcp2,dcll,dcl0,gtm,Heap.lt gtm,gt2,Heap.lt gt2,xt0.2,xt0.ltT,xt0.leT,dci,dc20,xt7.2,xt7.ltT,xt7.leT,gt27,Heap.lt gt27])
                  exact ⟨_, tellsErr 5, by rw [hdec], (xt0.trans xt7).set (.inl (by omega)) _⟩
end Go.Proofs.Ytdkhlhfdjggbpaa.Cm
