/- Chapter 8: MessageSpoilt. -/
import Derived.Test.YtgbeiiajgmfklaaMsgYh
namespace Go.Proofs.Ytgbeiiajgmfklaa.Cm
open Go.RowKit
set_option linter.unusedVariables false
set_option linter.unusedSimpArgs false
set_option maxRecDepth 20000
set_option maxHeartbeats 8000000
theorem Hold.set {σ : Heap} {t n m : Nat} {e : TypeId} {els full : List (List DV)} (hg : σ.get t = some ⟨full, e, true⟩) (hn : n = els.length) (hm : m = full.length) (hle : els.length ≤ full.length) (htk : full.take els.length = els) {k : Nat} (x : List DV) : Hold (σ.set t ⟨full.set k x, e, true⟩) (.sl t 0 n m) e (els.set k x) := by
  subst hn; subst hm
  refine .inr ⟨t, full.set k x, by simp, Heap.get_set (Heap.lt hg), by simpa using hle, ?_⟩
  rw [List.length_set, List.take_set, htk]
theorem tellsZ : TellsL [.agg (meC (mz 0 0)), .agg (mgC (mz 0 0).m nilS nilS)] [.agg (meC (mz 0 0)), .agg (meC (mz 0 0))] := ⟨Tells.refl _, Tells.agg ⟨Tells.refl _, Tells.refl _, Tells.refl _, Tells.refl _, Tells.refl _, Tells.refl _, Tells.refl _, Tells.refl _, Tells.refl _, Tells.refl _, Tells.refl _, Tells.refl _, Tells.refl _, Tells.refl _, Tells.refl _, Tells.nil, Tells.nil, Tells.refl _, Tells.refl _, Tells.refl _, trivial⟩, trivial⟩
open Classical in
theorem spoiltZ (σ : Heap) {z : Me} {a v : Int} (hw : z.rt.length ≤ 6000 ∧ z.rc.length ≤ 6000 → z.Wf) (hv : 0 ≤ v ∧ v ≤ 255) : ACalls Try.prog 4 [.agg (meC z), .sc (.int .i64 a), .sc (.int .u8 v)] σ (fun y σ' => y = .sc (.bool true)) := by
  simp only [meC, mgC]
  refine ACalls.code hT Try.func4 rfl ?_
  simp only [Try.ntmps4, List.length_cons, List.length_nil, Nat.reduceSub, Nat.reduceAdd, List.replicate, List.cons_append, List.nil_append]
  repeat (first | (with_reducible first | refine AW.seq ?_ | refine AW.block ?_ | refine AW.skip ?_ | refine AW.ret ?_ | refine AW.exit ?_ | refine AW.reg hT ?_) | ((with_reducible refine AW.cond_true ?_ ?_); · rfl) | ((with_reducible refine AW.cond_false ?_ ?_); · rfl) | simp (maxSteps := 3000000) (maxDischargeDepth := 12) only [seval,push_cast,appendX,Try.results4])
  refine AOpsL.call (first := []) (cap := []) hT rfl rfl rfl fn7 rfl (ACalls.mono (alive_ok _) ?_)
  rintro y σ1 ⟨rfl, xt1⟩
  have gt1 : σ1.get σ.n = some ⟨[meC z], 30, true⟩ := xt1.get (by simp (maxSteps := 3000000) (maxDischargeDepth := 12) only [push_cast, appendX, Nat.reduceAdd, Nat.reduceEqDiff, Nat.reduceLT, Nat.reduceLeDiff, reduceIte, reduceCtorEq, meC, mgC, xt1.2, xt1.ltT, xt1.leT]) (by simp)
  clear xt1
  repeat (first | (with_reducible first | refine AW.seq ?_ | refine AW.block ?_ | refine AW.skip ?_ | refine AW.ret ?_ | refine AW.exit ?_ | refine AW.reg hT ?_) | ((with_reducible refine AW.cond_true ?_ ?_); · rfl) | ((with_reducible refine AW.cond_false ?_ ?_); · rfl) | simp (maxSteps := 3000000) (maxDischargeDepth := 12) only [seval,push_cast,appendX,Try.results4,meC,mgC,gt1,Heap.lt gt1])
  refine AOpsL.call (first := []) (cap := []) hT rfl rfl rfl fn8 rfl (ACalls.mono (fits_ok _ z) ?_)
  rintro y σ2 ⟨rfl, xt2⟩
  have gt2 := xt2.get gt1 (by simp)
  clear xt2 gt1
  by_cases hf : ¬ (z.rt.length ≤ 6000 ∧ z.rc.length ≤ 6000)
  · rw [decide_eq_false hf]
    repeat (first | (with_reducible first | refine AW.seq ?_ | refine AW.block ?_ | refine AW.skip ?_ | refine AW.ret ?_ | refine AW.exit ?_ | refine AW.reg hT ?_) | ((with_reducible refine AW.cond_true ?_ ?_); · rfl) | ((with_reducible refine AW.cond_false ?_ ?_); · rfl) | simp (maxSteps := 3000000) (maxDischargeDepth := 12) only [seval,push_cast,appendX,Try.results4,gt2,Heap.lt gt2])
  · have hf := Decidable.not_not.1 hf
    have hw := hw hf
    rw [decide_eq_true hf]
    repeat (first | (with_reducible first | refine AW.seq ?_ | refine AW.block ?_ | refine AW.skip ?_ | refine AW.ret ?_ | refine AW.exit ?_ | refine AW.reg hT ?_) | ((with_reducible refine AW.cond_true ?_ ?_); · rfl) | ((with_reducible refine AW.cond_false ?_ ?_); · rfl) | simp (maxSteps := 3000000) (maxDischargeDepth := 12) only [seval,push_cast,appendX,Try.results4,meC,mgC,gt2,Heap.lt gt2])
    refine AOpsL.call (first := []) (cap := []) hT rfl rfl rfl fn10 rfl (ACalls.mono (theirs_ok _ z) ?_)
    rintro y σ3 ⟨rfl, xt3⟩
    clear xt3 gt2
    repeat (first | (with_reducible first | refine AW.seq ?_ | refine AW.block ?_ | refine AW.skip ?_ | refine AW.ret ?_ | refine AW.exit ?_ | refine AW.reg hT ?_) | ((with_reducible refine AW.cond_true ?_ ?_); · rfl) | ((with_reducible refine AW.cond_false ?_ ?_); · rfl) | simp (maxSteps := 3000000) (maxDischargeDepth := 12) only [seval,push_cast,appendX,Try.results4])
    refine AOpsL.call (first := []) (cap := []) hT rfl rfl rfl fn9 rfl (ACalls.mono (menc_ok _ hw) ?_)
    rintro y σ4 ⟨xt4, d, rfl, hh, hnew⟩
    have hdl := hold_len hh
    have dncl := hh.cells
    have dnlf := hh.leaf
    have dc20 : ((2 : Int) == 0) = false := rfl
    by_cases hm : ¬ mayM z
    · rw [encM_no hm] at hh hdl ⊢
      have dnl := hdl
      repeat (first | (with_reducible first | refine AW.seq ?_ | refine AW.block ?_ | refine AW.skip ?_ | refine AW.ret ?_ | refine AW.exit ?_ | refine AW.reg hT ?_) | ((with_reducible refine AW.cond_true ?_ ?_); · rfl) | ((with_reducible refine AW.cond_false ?_ ?_); · rfl) | simp (maxSteps := 3000000) (maxDischargeDepth := 12) only [seval,push_cast,appendX,Try.results4,xt4.2,xt4.ltT,xt4.leT,↓dncl,↓dnlf,dc20,↓dnl])
    · have hm := Decidable.not_not.1 hm
      rw [encM_yes hm] at hh hdl ⊢
      simp only at hh hdl
      have dnl := hdl
      by_cases ha0 : a < 0
      · have dca0 : decide (a < 0) = true := by simpa using ha0
        repeat (first | (with_reducible first | refine AW.seq ?_ | refine AW.block ?_ | refine AW.skip ?_ | refine AW.ret ?_ | refine AW.exit ?_ | refine AW.reg hT ?_) | ((with_reducible refine AW.cond_true ?_ ?_); · rfl) | ((with_reducible refine AW.cond_false ?_ ?_); · rfl) | simp (maxSteps := 3000000) (maxDischargeDepth := 12) only [seval,push_cast,appendX,Try.results4,xt4.2,xt4.ltT,xt4.leT,↓dncl,↓dnlf,dc20,↓dnl,dca0])
      · have dca0 : decide (a < 0) = false := by simpa using ha0
        by_cases hal : ((sealM z).length : Int) ≤ a
        · have dcal : decide (((sealM z).length : Int) ≤ a) = true := by simpa using hal
          repeat (first | (with_reducible first | refine AW.seq ?_ | refine AW.block ?_ | refine AW.skip ?_ | refine AW.ret ?_ | refine AW.exit ?_ | refine AW.reg hT ?_) | ((with_reducible refine AW.cond_true ?_ ?_); · rfl) | ((with_reducible refine AW.cond_false ?_ ?_); · rfl) | simp (maxSteps := 3000000) (maxDischargeDepth := 12) only [seval,push_cast,appendX,Try.results4,xt4.2,xt4.ltT,xt4.leT,↓dncl,↓dnlf,dc20,↓dnl,dca0,dcal])
        · have dcal : decide (((sealM z).length : Int) ≤ a) = false := by simpa using hal
          by_cases hv0 : v = 0
          · have dcv : (v == 0) = true := by simpa using hv0
            repeat (first | (with_reducible first | refine AW.seq ?_ | refine AW.block ?_ | refine AW.skip ?_ | refine AW.ret ?_ | refine AW.exit ?_ | refine AW.reg hT ?_) | ((with_reducible refine AW.cond_true ?_ ?_); · rfl) | ((with_reducible refine AW.cond_false ?_ ?_); · rfl) | simp (maxSteps := 3000000) (maxDischargeDepth := 12) only [seval,push_cast,appendX,Try.results4,xt4.2,xt4.ltT,xt4.leT,↓dncl,↓dnlf,dc20,↓dnl,dca0,dcal,dcv])
          · have dcv : (v == 0) = false := by simpa using hv0
            obtain ⟨k, rfl⟩ := Int.eq_ofNat_of_zero_le (show 0 ≤ a by omega)
            have hk : k < (sealM z).length := by omega
            have hok := sealM_octs hm _ (List.getElem_mem hk)
            obtain ⟨hxr, hxn⟩ := xor_byte (a := (sealM z)[k]) (b := v) ⟨hok.1, by omega⟩ hv hv0
            have hsp := spoilt hm hk hxr hxn
            have hbk : k < (bytesD (sealM z)).length := by rw [bytesD_length]; exact hk
            have hbl : (bytesD (sealM z)).length = (sealM z).length := bytesD_length _
            rcases hh with ⟨rfl, he⟩ | ⟨t, full, rfl, hg, hle, htk⟩
            · rw [he] at hbk; simp at hbk
            · have gtt := hg
              have hkf : k < full.length := by omega
              have hfk : full[k]? = some [.sc (.int .u8 (sealM z)[k])] := by
                rw [← bytesD_get hk]
                conv => rhs; rw [← htk]
                rw [List.getElem?_take, if_pos hbk]
              have dcfk := hfk
              have dck0 : ((0 : Int) ≤ (k : Int)) = True := by simp
              have dck1 : ((k : Int) < ((bytesD (sealM z)).length : Int)) = True := by simp; omega
              have hset : (bytesD (sealM z)).set k [.sc (.int .u8 (Go.bits .xor .u8 (sealM z)[k] v))] = bytesD ((sealM z).set k (Go.bits .xor .u8 (sealM z)[k] v)) := by
                simp [bytesD, List.map_set]
              have hH2 := Hold.set hg rfl rfl hle htk (k := k) [.sc (.int .u8 (Go.bits .xor .u8 (sealM z)[k] v))]
              rw [hset] at hH2
              have hoo : Octs ((sealM z).set k (Go.bits .xor .u8 (sealM z)[k] v)) := octs_okB (okB_set (okB_octs (sealM_octs hm)) k hxr.1 hxr.2)
              have hll : ((sealM z).set k (Go.bits .xor .u8 (sealM z)[k] v)).length ≤ 999999 := by
                rw [List.length_set, sealM_len]
                have := (objs_may hm.2.2.2.2.1).2.2.1
                omega
              have hzero := decM_zero hsp
              revert hH2 hoo hll hzero hsp
              generalize (sealM z).set k (Go.bits .xor .u8 (sealM z)[k] v) = sb
              intro hsp hH2 hoo hll hzero
              repeat (first | (with_reducible first | refine AW.seq ?_ | refine AW.block ?_ | refine AW.skip ?_ | refine AW.ret ?_ | refine AW.exit ?_ | refine AW.reg hT ?_) | ((with_reducible refine AW.cond_true ?_ ?_); · rfl) | ((with_reducible refine AW.cond_false ?_ ?_); · rfl) | simp (maxSteps := 3000000) (maxDischargeDepth := 12) only [seval,push_cast,appendX,Try.results4,xt4.2,xt4.ltT,xt4.leT,↓dncl,↓dnlf,dc20,↓dnl,dca0,dcal,dcv,gtt,Heap.lt gtt,dcfk,dck0,dck1])
              refine AOpsL.call (first := []) (cap := []) hT rfl rfl rfl fn11 rfl (ACalls.mono (ACalls.holdArg (j := 0) (R := fun x _ => x = .tup [.agg (meC (decM sb).1), .sc (.int .i64 (decM sb).2)]) (els := bytesD sb) (e := 5) hH2 rfl (fun σ5 hx5 => (mdec_ok σ5 hoo hll).mono (fun x σ6 hh => hh.1))) ?_)
              rintro y σ5 rfl
              have dce : ((decM sb).2 == 0) = false := by simpa using hsp
              rw [hzero]
              repeat (first | (with_reducible first | refine AW.seq ?_ | refine AW.block ?_ | refine AW.skip ?_ | refine AW.ret ?_ | refine AW.exit ?_ | refine AW.reg hT ?_) | ((with_reducible refine AW.cond_true ?_ ?_); · rfl) | ((with_reducible refine AW.cond_false ?_ ?_); · rfl) | simp (maxSteps := 3000000) (maxDischargeDepth := 12) only [seval,push_cast,appendX,Try.results4,meC,mgC,xt4.2,xt4.ltT,xt4.leT,↓dncl,↓dnlf,dc20,↓dnl,dca0,dcal,dcv,gtt,Heap.lt gtt,dcfk,dck0,dck1,dce])
              refine AOpsL.call (first := []) (cap := []) hT rfl rfl rfl fn13 rfl (ACalls.mono (ours_ok _ (mz 0 0)) ?_)
              rintro y σ6 ⟨rfl, xt6⟩
              repeat (first | (with_reducible first | refine AW.seq ?_ | refine AW.block ?_ | refine AW.skip ?_ | refine AW.ret ?_ | refine AW.exit ?_ | refine AW.reg hT ?_) | ((with_reducible refine AW.cond_true ?_ ?_); · rfl) | ((with_reducible refine AW.cond_false ?_ ?_); · rfl) | simp (maxSteps := 3000000) (maxDischargeDepth := 12) only [seval,push_cast,appendX,Try.results4,meC,mgC,xt4.2,xt4.ltT,xt4.leT,↓dncl,↓dnlf,dc20,↓dnl,dca0,dcal,dcv,gtt,Heap.lt gtt,dcfk,dck0,dck1,dce,xt6.2,xt6.ltT,xt6.leT])
              refine AOpsL.call (first := []) (cap := []) hT rfl rfl rfl fn12 rfl (ACalls.mono (ACalls.told tellsZ (rSame_ok _ (a := mz 0 0) (b := mz 0 0) (by simp [mz]) (by simp [mz]))) ?_)
              rintro y σ7 ⟨xt7, t2, rfl, ht⟩
              have ht := ht.2 rfl
              subst ht
              repeat (first | (with_reducible first | refine AW.seq ?_ | refine AW.block ?_ | refine AW.skip ?_ | refine AW.ret ?_ | refine AW.exit ?_ | refine AW.reg hT ?_) | ((with_reducible refine AW.cond_true ?_ ?_); · rfl) | ((with_reducible refine AW.cond_false ?_ ?_); · rfl) | simp (maxSteps := 3000000) (maxDischargeDepth := 12) only [seval,push_cast,appendX,Try.results4,xt4.2,xt4.ltT,xt4.leT,↓dncl,↓dnlf,dc20,↓dnl,dca0,dcal,dcv,gtt,Heap.lt gtt,dcfk,dck0,dck1,dce,xt6.2,xt6.ltT,xt6.leT,xt7.2,xt7.ltT,xt7.leT])
theorem spoilt_ok (x : Ms) (a : Int) (v : Int) (h : wM x) (ha : (Lit.int .i64 a).wf = true) (hv : (Lit.int .u8 v).wf = true) : ACalls Try.prog 4 [.agg (eM x), .sc (.int .i64 a), .sc (.int .u8 v)] ⟨[]⟩ (fun y _ => y = .sc (.bool true)) := by
  rw [eM_eq]
  exact spoiltZ _ (fun hf => wM_wf h hf.1 hf.2) (wf_u8 hv)
end Go.Proofs.Ytgbeiiajgmfklaa.Cm
