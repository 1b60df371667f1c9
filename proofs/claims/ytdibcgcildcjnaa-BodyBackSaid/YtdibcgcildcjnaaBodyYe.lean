/- The law BodyBack. -/
import Derived.Test.YtdibcgcildcjnaaBodyYd
namespace Go.Proofs.Ytdibcgcildcjnaa.Cm
open Go.RowKit
set_option linter.unusedVariables false
set_option linter.unusedSimpArgs false
set_option maxRecDepth 20000
set_option maxHeartbeats 8000000
abbrev Ob := S38
abbrev eO := e38
abbrev wO := w38
theorem eO_eq (o : Ob) : eO o = oC o.f0 o.f1 o.f2 := rfl
theorem wO_octs {o : Ob} (h : wO o) : Octs o.f2 := fun d hd => by
  have := wf_u8 (h.2.2.2 d hd)
  omega
theorem wO_cls {o : Ob} (h : wO o) : -9223372036854775808 ≤ o.f0 ∧ o.f0 ≤ 9223372036854775807 := wf_i64 h.1
theorem unpackE_ok (σ : Heap) {c k e : Int} {b : List Int} {w : Fs} {M : List Int} (ho : Octs b) (hb : b.length ≤ 1000000) (hc : -9223372036854775808 ≤ c ∧ c ≤ 9223372036854775807) (h : unpA c k b = (w, M, e)) :
    ACalls Try.prog 14 [.agg (oC c k b)] σ (fun y σ' => y = .tup [.agg (itC w (.imm (M.map eI))), .sc (.int .i64 e)] ∧ Ext [] σ σ') := by
  have := unpackI_ok σ (k := k) (d := .imm (bytesD b)) rfl rfl (Src.imm σ (bytesD b)) ho hb hc
  rw [h] at this; exact this
/-- What Unpack answers. -/
theorem unp_cases (c k : Int) {b : List Int} (ho : Octs b) : ∃ w M e, unpA c k b = (w, M, e) ∧ ((e = 0 ∧ mayI w M ∧ w.cls = c ∧ kindI c = k ∧ bodyI w M = b) ∨ (e = 5 ∧ w = zF 0 ∧ M = [])) := by
  by_cases h : (unpA c k b).2.2 = 0
  · exact ⟨_, _, _, rfl, .inl ⟨h, unp_back ho h⟩⟩
  · exact ⟨_, _, _, unp_no h, .inr ⟨rfl, rfl, rfl⟩⟩
theorem may_wf {x : Fs} {L : List Int} (hc : -9223372036854775808 ≤ x.cls ∧ x.cls ≤ 9223372036854775807) (h : mayI x L) : x.Wf := by
  rcases h with ⟨h1, h2, h3, h4⟩ | ⟨h1, h2, h3, h4, h5⟩
  · rw [h2]; exact zF_wf _ hc
  · have key : ∀ j, isF j → (0 ≤ x.get j ∧ (j = 4 → x.get j ≤ 18446744073709551615) ∧ (j ≠ 4 → x.get j < 4294967296)) := fun j hj => by
      by_cases hm : j ∈ flds (stepsOf x.cls)
      · simp only [flds, List.mem_flatMap] at hm
        obtain ⟨a, ha, hja⟩ := hm
        have hs := (steps_sound h1).2 a ha
        have hk := h4 a ha
        cases a with
        | fix n u => simp [Stp.fld] at hja
        | node i =>
          simp [Stp.fld] at hja; subst hja
          have := hk.1; have := hk.2
          exact ⟨by omega, by omega, by omega⟩
        | int n i top =>
          simp [Stp.fld] at hja; subst hja
          have h7 := hs.2.2.1
          have h8 : (256 : Int) ^ n ≤ 256 ^ 4 := by
            have : (256 : Nat) ^ n ≤ 256 ^ 4 := Nat.pow_le_pow_right (by omega) hs.2.1
            exact_mod_cast this
          have h9 : (256 : Int) ^ 4 = 4294967296 := by decide
          have := hk.1; have := hk.2
          exact ⟨by omega, by omega, by omega⟩
        | raw n i =>
          simp [Stp.fld] at hja; subst hja
          have e4 : (256 : Int) ^ 4 = 4294967296 := by decide
          have e8 : (256 : Int) ^ 8 = 18446744073709551616 := by decide
          have h8 : n ≤ 8 := hs.2.1
          have hp : (256 : Int) ^ n ≤ 256 ^ 8 := by
            have : (256 : Nat) ^ n ≤ 256 ^ 8 := Nat.pow_le_pow_right (by omega) h8
            exact_mod_cast this
          have hk1 := hk.1
          have hk2 := hk.2
          refine ⟨hk1, fun _ => by omega, fun hj4 => ?_⟩
          have hn4 : n = 4 := by
            rcases h1 with hc | hc | hc | hc | hc | hc | hc | hc | hc | hc | hc | hc | hc <;> rw [hc] at ha <;> simp [stepsOf] at ha <;> omega
          rw [hn4, e4] at hk2
          exact hk2
      · rw [h5 j hj hm]; exact ⟨by omega, by omega, by omega⟩
    have k1 := key 1 (by simp [isF])
    have k2 := key 2 (by simp [isF])
    have k3 := key 3 (by simp [isF])
    have k4 := (key 4 (by simp [isF])).1
    have k4' := (key 4 (by simp [isF])).2.1 rfl
    have k6 := key 6 (by simp [isF])
    have k7 := key 7 (by simp [isF])
    have k8 := key 8 (by simp [isF])
    have k9 := key 9 (by simp [isF])
    have k10 := key 10 (by simp [isF])
    have k11 := key 11 (by simp [isF])
    simp only [Fs.get] at k1 k2 k3 k4 k4' k6 k7 k8 k9 k10 k11
    exact ⟨hc, by omega, by omega, by omega, by omega, by omega, by omega, by omega, by omega, by omega, by omega⟩
theorem may_len {x : Fs} {L : List Int} (h : mayI x L) : L.length ≤ 16 := by
  rcases h with ⟨_, _, h3, _⟩ | ⟨_, h2, _⟩
  · exact h3
  · rw [h2]; simp
theorem body_len4 {x : Fs} {L : List Int} (h : mayI x L) : (bodyI x L).length % 4 = 0 := by
  rcases h with ⟨h1, h2, h3, h4⟩ | ⟨h1, h2, h3, h4, h5⟩
  · simp only [bodyI, h1, if_true]; rw [hops_len]; omega
  · have hn := known_notL h1
    simp only [bodyI, hn, if_false]
    rcases h1 with h | h | h | h | h | h | h | h | h | h | h | h | h <;> (rw [h]; simp [stepsOf, btsL, bts, digits_length])
def bkK (X : Fs) (L : List Int) (c k : Int) (b : List Int) (p q : Nat) (ts : List DV) (σ : Heap) : Prop := σ.get p = some (RtO X (.imm (L.map eI))) ∧ σ.get q = some ⟨[oC c k b], 38, true⟩ ∧ TellsL ts (.any :: .any :: .ptr p 0 0 1 :: .ptr q 0 0 1 :: .any :: .any :: .any :: .any :: .any :: .any :: .any :: .any :: .any :: .any :: .any :: .any :: .any :: .any :: .any :: .any :: .any :: .any :: .any :: .any :: .any :: .any :: .any :: .any :: .any :: .any :: .any :: .any :: .any :: .any :: .any :: .any :: .any :: .any :: .any :: .any :: .any :: .any :: .any :: .any :: .any :: .any :: .any :: .any :: .any :: .any :: .any :: .any :: .any :: .any :: .any :: .any :: .any :: .any :: .any :: .any :: .any :: .any :: .any :: .any :: .any :: .any :: .any :: .any :: .any :: .any :: .any :: .any :: .any :: .any :: .any :: .any :: [])
theorem back_ok (x : It) (o : Ob) (hx : wR x) (hwo : wO o) : ACalls Try.prog 5 [.agg (eR x), .agg (eO o)] ⟨[]⟩ (fun r _ => r = .sc (.bool true)) := by
  have hwx := wR_wf hx
  have ho := wO_octs hwo
  have hwc := wO_cls hwo
  generalize hσ : (⟨[]⟩ : Heap) = σ
  simp only [eR_eq, eO_eq]
  generalize fsR x = X at hwx ⊢
  generalize x.f5 = L
  generalize o.f0 = c at hwc ⊢
  generalize o.f1 = k
  generalize o.f2 = b at ho ⊢
  clear hx hwo x o
  have del : (L.map eI).length = L.length := List.length_map ..
  have deb : (bytesD b).length = b.length := bytesD_length _
  refine ACalls.code hT Try.func5 rfl ?_
  simp only [Try.ntmps5, List.length_cons, List.length_nil, Nat.reduceSub, Nat.reduceAdd, List.replicate, List.cons_append, List.nil_append]
  repeat ((fail_if_success (with_reducible refine AW.at1 (id := 1) ?_)); (fail_if_success (with_reducible refine AW.at2 (id := 1) ?_)); first | (with_reducible refine AW.seq ?_) | (with_reducible refine AW.block ?_) | (with_reducible refine AW.skip ?_) | (with_reducible refine AW.ret ?_) | (with_reducible refine AW.exit ?_) | (with_reducible refine AW.reg hT ?_) | ((with_reducible refine AW.cond_true ?_ ?_); · rfl) | ((with_reducible refine AW.cond_false ?_ ?_); · rfl) | simp (maxSteps := 3000000) (maxDischargeDepth := 12) only [push_cast,appendX,reduceIte,reduceCtorEq,Nat.reduceSub,Nat.reduceAdd,Nat.reduceMul,Nat.reduceLT,Nat.reduceLeDiff,Nat.reduceEqDiff,Nat.reduceBEq,Int.reduceToNat,Int.reduceLT,Int.reduceLE,Int.reduceEq,Int.reduceNeg,Try.results5,itC_len,itC_take,itC_d5,itC_leaf,oC])
  refine AW.name (fun σ1 hσ1 => ?_)
  have gtx : σ1.get σ.n = some (RtO X (.imm (L.map eI))) := by subst hσ1; simp (maxSteps := 3000000) (maxDischargeDepth := 12) only [push_cast, appendX, Nat.reduceAdd, Nat.reduceEqDiff, Nat.reduceLT, Nat.reduceLeDiff, reduceIte, reduceCtorEq, RtO]
  have gto : σ1.get (σ.n + 1) = some ⟨[oC c k b], 38, true⟩ := by subst hσ1; simp (maxSteps := 3000000) (maxDischargeDepth := 12) only [push_cast, appendX, Nat.reduceAdd, Nat.reduceEqDiff, Nat.reduceLT, Nat.reduceLeDiff, reduceIte, reduceCtorEq, oC, gtx, Heap.lt gtx]
  clear hσ1 hσ
  generalize σ.n = p at gtx gto ⊢
  generalize p + 1 = q at gto ⊢
  have gtx := gtx
  have gto := gto
  repeat (first | (with_reducible refine AW.seq ?_) | (with_reducible refine AW.block ?_) | (with_reducible refine AW.skip ?_) | (with_reducible refine AW.ret ?_) | (with_reducible refine AW.exit ?_) | (with_reducible refine AW.reg hT ?_) | ((with_reducible refine AW.cond_true ?_ ?_); · rfl) | ((with_reducible refine AW.cond_false ?_ ?_); · rfl) | simp (maxSteps := 3000000) (maxDischargeDepth := 12) only [push_cast,appendX,reduceIte,reduceCtorEq,Nat.reduceSub,Nat.reduceAdd,Nat.reduceMul,Nat.reduceLT,Nat.reduceLeDiff,Nat.reduceEqDiff,Nat.reduceBEq,Int.reduceToNat,Int.reduceLT,Int.reduceLE,Int.reduceEq,Int.reduceNeg,Try.results5,RtO,gtx,Heap.lt gtx,gto,Heap.lt gto])
  refine AOpsL.call (first := []) (cap := []) hT rfl rfl rfl fn8 rfl (ACalls.mono (alive_ok _) ?_)
  rintro r σ2 ⟨rfl, xt2⟩
  have gtx2 := xt2.get gtx (by simp)
  have gto2 := xt2.get gto (by simp)
  clear xt2 gtx gto
  by_cases h1 : 6000 < L.length
  · have dc1 : decide (6000 < (L.length : Int)) = true := decide_eq_true (by omega)
    repeat (first | (with_reducible refine AW.seq ?_) | (with_reducible refine AW.block ?_) | (with_reducible refine AW.skip ?_) | (with_reducible refine AW.ret ?_) | (with_reducible refine AW.exit ?_) | (with_reducible refine AW.reg hT ?_) | ((with_reducible refine AW.cond_true ?_ ?_); · rfl) | ((with_reducible refine AW.cond_false ?_ ?_); · rfl) | simp (maxSteps := 3000000) (maxDischargeDepth := 12) only [push_cast,appendX,reduceIte,reduceCtorEq,Nat.reduceSub,Nat.reduceAdd,Nat.reduceMul,Nat.reduceLT,Nat.reduceLeDiff,Nat.reduceEqDiff,Nat.reduceBEq,Int.reduceToNat,Int.reduceLT,Int.reduceLE,Int.reduceEq,Int.reduceNeg,Try.results5,RtO,itC_len,itC_d5,del,deb,oC,gtx2,Heap.lt gtx2,gto2,Heap.lt gto2,dc1])
  have dc1 : decide (6000 < (L.length : Int)) = false := decide_eq_false (by omega)
  by_cases h2 : 6000 < b.length
  · have dc2 : decide (6000 < (b.length : Int)) = true := decide_eq_true (by omega)
    repeat (first | (with_reducible refine AW.seq ?_) | (with_reducible refine AW.block ?_) | (with_reducible refine AW.skip ?_) | (with_reducible refine AW.ret ?_) | (with_reducible refine AW.exit ?_) | (with_reducible refine AW.reg hT ?_) | ((with_reducible refine AW.cond_true ?_ ?_); · rfl) | ((with_reducible refine AW.cond_false ?_ ?_); · rfl) | simp (maxSteps := 3000000) (maxDischargeDepth := 12) only [push_cast,appendX,reduceIte,reduceCtorEq,Nat.reduceSub,Nat.reduceAdd,Nat.reduceMul,Nat.reduceLT,Nat.reduceLeDiff,Nat.reduceEqDiff,Nat.reduceBEq,Int.reduceToNat,Int.reduceLT,Int.reduceLE,Int.reduceEq,Int.reduceNeg,Try.results5,RtO,itC_len,itC_d5,del,deb,oC,gtx2,Heap.lt gtx2,gto2,Heap.lt gto2,dc1,dc2])
  have dc2 : decide (6000 < (b.length : Int)) = false := decide_eq_false (by omega)
  repeat ((fail_if_success (with_reducible refine AW.at1 (id := 5) ?_)); (fail_if_success (with_reducible refine AW.at2 (id := 5) ?_)); first | (with_reducible refine AW.seq ?_) | (with_reducible refine AW.block ?_) | (with_reducible refine AW.skip ?_) | (with_reducible refine AW.ret ?_) | (with_reducible refine AW.exit ?_) | (with_reducible refine AW.reg hT ?_) | ((with_reducible refine AW.cond_true ?_ ?_); · rfl) | ((with_reducible refine AW.cond_false ?_ ?_); · rfl) | simp (maxSteps := 3000000) (maxDischargeDepth := 12) only [push_cast,appendX,reduceIte,reduceCtorEq,Nat.reduceSub,Nat.reduceAdd,Nat.reduceMul,Nat.reduceLT,Nat.reduceLeDiff,Nat.reduceEqDiff,Nat.reduceBEq,Int.reduceToNat,Int.reduceLT,Int.reduceLE,Int.reduceEq,Int.reduceNeg,Try.results5,RtO,itC_len,itC_d5,del,deb,oC,gtx2,Heap.lt gtx2,gto2,Heap.lt gto2,dc1,dc2])
  refine AW.seqK (bkK X L c k b p q) ?_ ?_
  · as_aux_lemma =>
    obtain ⟨c1, k1, b1, e1, hp, ho1, hb1, hc⟩ := pack_cases X L
    repeat (first | (with_reducible refine AW.seq ?_) | (with_reducible refine AW.block ?_) | (with_reducible refine AW.skip ?_) | (with_reducible refine AW.ret ?_) | (with_reducible refine AW.exit ?_) | (with_reducible refine AW.reg hT ?_) | ((with_reducible refine AW.cond_true ?_ ?_); · rfl) | ((with_reducible refine AW.cond_false ?_ ?_); · rfl) | simp (maxSteps := 3000000) (maxDischargeDepth := 12) only [push_cast,appendX,reduceIte,reduceCtorEq,Nat.reduceSub,Nat.reduceAdd,Nat.reduceMul,Nat.reduceLT,Nat.reduceLeDiff,Nat.reduceEqDiff,Nat.reduceBEq,Int.reduceToNat,Int.reduceLT,Int.reduceLE,Int.reduceEq,Int.reduceNeg,Try.results5,RtO,itC_len,itC_take,itC_d5,itC_leaf,gtx2,Heap.lt gtx2,gto2,Heap.lt gto2,dc1,dc2])
    refine AOpsL.call (first := []) (cap := []) hT rfl rfl rfl fn10 rfl (ACalls.mono (ltheirs_ok _ X rfl rfl) ?_)
    rintro r σ3 ⟨rfl, xt3⟩
    repeat (first | (with_reducible refine AW.seq ?_) | (with_reducible refine AW.block ?_) | (with_reducible refine AW.skip ?_) | (with_reducible refine AW.ret ?_) | (with_reducible refine AW.exit ?_) | (with_reducible refine AW.reg hT ?_) | ((with_reducible refine AW.cond_true ?_ ?_); · rfl) | ((with_reducible refine AW.cond_false ?_ ?_); · rfl) | simp (maxSteps := 3000000) (maxDischargeDepth := 12) only [push_cast,appendX,reduceIte,reduceCtorEq,Nat.reduceSub,Nat.reduceAdd,Nat.reduceMul,Nat.reduceLT,Nat.reduceLeDiff,Nat.reduceEqDiff,Nat.reduceBEq,Int.reduceToNat,Int.reduceLT,Int.reduceLE,Int.reduceEq,Int.reduceNeg,Try.results5,gtx2,Heap.lt gtx2,gto2,Heap.lt gto2,dc1,dc2,xt3.2,xt3.ltT,xt3.leT])
    refine AOpsL.call (first := []) (cap := []) hT rfl rfl rfl fn9 rfl (ACalls.mono (packE_ok _ hwx (by omega) hp) ?_)
    rintro r σ4 ⟨rfl, xt4⟩
    have gtx4 := xt4.get (xt3.get gtx2 (by simp)) (by simp)
    have gto4 := xt4.get (xt3.get gto2 (by simp)) (by simp)
    clear xt3 xt4 gtx2 gto2
    repeat ((fail_if_success (with_reducible refine AW.at1 (id := 6) ?_)); (fail_if_success (with_reducible refine AW.at2 (id := 6) ?_)); first | (with_reducible refine AW.seq ?_) | (with_reducible refine AW.block ?_) | (with_reducible refine AW.skip ?_) | (with_reducible refine AW.ret ?_) | (with_reducible refine AW.exit ?_) | (with_reducible refine AW.reg hT ?_) | ((with_reducible refine AW.cond_true ?_ ?_); · rfl) | ((with_reducible refine AW.cond_false ?_ ?_); · rfl) | simp (maxSteps := 3000000) (maxDischargeDepth := 12) only [push_cast,appendX,reduceIte,reduceCtorEq,Nat.reduceSub,Nat.reduceAdd,Nat.reduceMul,Nat.reduceLT,Nat.reduceLeDiff,Nat.reduceEqDiff,Nat.reduceBEq,Int.reduceToNat,Int.reduceLT,Int.reduceLE,Int.reduceEq,Int.reduceNeg,Try.results5,oC,dc1,dc2,gtx4,Heap.lt gtx4,gto4,Heap.lt gto4])
    refine AW.name (fun σ5 hσ5 => ?_)
    have gtx5 : σ5.get p = some (RtO X (.imm (L.map eI))) := by subst hσ5; simp (maxSteps := 3000000) (maxDischargeDepth := 12) only [push_cast, appendX, Nat.reduceAdd, Nat.reduceEqDiff, Nat.reduceLT, Nat.reduceLeDiff, reduceIte, reduceCtorEq, dc1, dc2, gtx4, Heap.lt gtx4, gto4, Heap.lt gto4]
    have gto5 : σ5.get q = some ⟨[oC c k b], 38, true⟩ := by subst hσ5; simp (maxSteps := 3000000) (maxDischargeDepth := 12) only [push_cast, appendX, Nat.reduceAdd, Nat.reduceEqDiff, Nat.reduceLT, Nat.reduceLeDiff, reduceIte, reduceCtorEq, dc1, dc2, gtx4, Heap.lt gtx4, gto4, Heap.lt gto4, gtx5, Heap.lt gtx5]
    have gta5 : σ5.get σ4.n = some ⟨[oC c1 k1 b1], 32, true⟩ := by subst hσ5; simp (maxSteps := 3000000) (maxDischargeDepth := 12) only [push_cast, appendX, Nat.reduceAdd, Nat.reduceEqDiff, Nat.reduceLT, Nat.reduceLeDiff, reduceIte, reduceCtorEq, oC, dc1, dc2, gtx4, Heap.lt gtx4, gto4, Heap.lt gto4, gtx5, Heap.lt gtx5, gto5, Heap.lt gto5]
    clear hσ5 gtx4 gto4
    generalize σ4.n = r at gta5 ⊢
    have gta5 := gta5
    refine AW.told (ts' := (.any :: .any :: .ptr p 0 0 1 :: .ptr q 0 0 1 :: .any :: .ptr r 0 0 1 :: .sc (.int .i64 e1) :: .any :: .any :: .any :: .any :: .any :: .any :: .any :: .any :: .any :: .any :: .any :: .any :: .any :: .any :: .any :: .any :: .any :: .any :: .any :: .any :: .any :: .any :: .any :: .any :: .any :: .any :: .any :: .any :: .any :: .any :: .any :: .any :: .any :: .any :: .any :: .any :: .any :: .any :: .any :: .any :: .any :: .any :: .any :: .any :: .any :: .any :: .any :: .any :: .any :: .any :: .any :: .any :: .any :: .any :: .any :: .any :: .any :: .any :: .any :: .any :: .any :: .any :: .any :: .any :: .any :: .any :: .any :: .any :: .any :: [])) (by (simp only [push_cast, TellsL, tells_any, tells_refl])) ?_
    rcases hc with ⟨he, m1, hc1, hc2, hc3⟩ | ⟨he, _⟩
    · have dce : (e1 == 0) = true := by rw [he]; rfl
      have hu : unpA c1 k1 b1 = (X, L, 0) := by rw [hc1, hc2, hc3]; exact unp_may m1
      have h4 := body_len4 m1
      rw [← hc3] at h4
      repeat (first | (with_reducible refine AW.seq ?_) | (with_reducible refine AW.block ?_) | (with_reducible refine AW.skip ?_) | (with_reducible refine AW.ret ?_) | (with_reducible refine AW.exit ?_) | (with_reducible refine AW.reg hT ?_) | ((with_reducible refine AW.cond_true ?_ ?_); · rfl) | ((with_reducible refine AW.cond_false ?_ ?_); · rfl) | simp (maxSteps := 3000000) (maxDischargeDepth := 12) only [push_cast,appendX,reduceIte,reduceCtorEq,Nat.reduceSub,Nat.reduceAdd,Nat.reduceMul,Nat.reduceLT,Nat.reduceLeDiff,Nat.reduceEqDiff,Nat.reduceBEq,Int.reduceToNat,Int.reduceLT,Int.reduceLE,Int.reduceEq,Int.reduceNeg,Try.results5,oC,dc1,dc2,gtx5,Heap.lt gtx5,gto5,Heap.lt gto5,gta5,Heap.lt gta5,dce])
      refine AOpsL.call (first := []) (cap := []) hT rfl rfl rfl fn14 rfl (ACalls.mono (unpackE_ok _ ho1 hb1 (by rw [hc1]; exact hwx.1) hu) ?_)
      rintro r' σ6 ⟨rfl, xt6⟩
      have gtx6 := xt6.get gtx5 (by simp)
      have gto6 := xt6.get gto5 (by simp)
      have gta6 := xt6.get gta5 (by simp)
      clear xt6 gtx5 gto5 gta5
      repeat ((fail_if_success (with_reducible refine AW.at1 (id := 8) ?_)); (fail_if_success (with_reducible refine AW.at2 (id := 8) ?_)); first | (with_reducible refine AW.seq ?_) | (with_reducible refine AW.block ?_) | (with_reducible refine AW.skip ?_) | (with_reducible refine AW.ret ?_) | (with_reducible refine AW.exit ?_) | (with_reducible refine AW.reg hT ?_) | ((with_reducible refine AW.cond_true ?_ ?_); · rfl) | ((with_reducible refine AW.cond_false ?_ ?_); · rfl) | simp (maxSteps := 3000000) (maxDischargeDepth := 12) only [push_cast,appendX,reduceIte,reduceCtorEq,Nat.reduceSub,Nat.reduceAdd,Nat.reduceMul,Nat.reduceLT,Nat.reduceLeDiff,Nat.reduceEqDiff,Nat.reduceBEq,Int.reduceToNat,Int.reduceLT,Int.reduceLE,Int.reduceEq,Int.reduceNeg,Try.results5,itC_len,itC_take,itC_leaf,dc1,dc2,dce,gtx6,Heap.lt gtx6,gto6,Heap.lt gto6,gta6,Heap.lt gta6])
      refine AW.name (fun σ7 hσ7 => ?_)
      have gtx7 : σ7.get p = some (RtO X (.imm (L.map eI))) := by subst hσ7; simp (maxSteps := 3000000) (maxDischargeDepth := 12) only [push_cast, appendX, Nat.reduceAdd, Nat.reduceEqDiff, Nat.reduceLT, Nat.reduceLeDiff, reduceIte, reduceCtorEq, dc1, dc2, dce, gtx6, Heap.lt gtx6, gto6, Heap.lt gto6, gta6, Heap.lt gta6]
      have gto7 : σ7.get q = some ⟨[oC c k b], 38, true⟩ := by subst hσ7; simp (maxSteps := 3000000) (maxDischargeDepth := 12) only [push_cast, appendX, Nat.reduceAdd, Nat.reduceEqDiff, Nat.reduceLT, Nat.reduceLeDiff, reduceIte, reduceCtorEq, dc1, dc2, dce, gtx6, Heap.lt gtx6, gto6, Heap.lt gto6, gta6, Heap.lt gta6, gtx7, Heap.lt gtx7]
      have gta7 : σ7.get r = some ⟨[oC c1 k1 b1], 32, true⟩ := by subst hσ7; simp (maxSteps := 3000000) (maxDischargeDepth := 12) only [push_cast, appendX, Nat.reduceAdd, Nat.reduceEqDiff, Nat.reduceLT, Nat.reduceLeDiff, reduceIte, reduceCtorEq, dc1, dc2, dce, gtx6, Heap.lt gtx6, gto6, Heap.lt gto6, gta6, Heap.lt gta6, gtx7, Heap.lt gtx7, gto7, Heap.lt gto7]
      have gty7 : σ7.get σ6.n = some (ItO X (.imm (L.map eI))) := by subst hσ7; simp (maxSteps := 3000000) (maxDischargeDepth := 12) only [push_cast, appendX, Nat.reduceAdd, Nat.reduceEqDiff, Nat.reduceLT, Nat.reduceLeDiff, reduceIte, reduceCtorEq, ItO, dc1, dc2, dce, gtx6, Heap.lt gtx6, gto6, Heap.lt gto6, gta6, Heap.lt gta6, gtx7, Heap.lt gtx7, gto7, Heap.lt gto7, gta7, Heap.lt gta7]
      clear hσ7 gtx6 gto6 gta6
      generalize σ6.n = s at gty7 ⊢
      have gty7 := gty7
      refine AW.told (ts' := (.any :: .any :: .ptr p 0 0 1 :: .ptr q 0 0 1 :: .any :: .ptr r 0 0 1 :: .any :: .ptr s 0 0 1 :: .sc (.int .i64 0) :: .any :: .any :: .any :: .any :: .any :: .any :: .any :: .any :: .any :: .any :: .any :: .any :: .any :: .any :: .any :: .any :: .any :: .any :: .any :: .any :: .any :: .any :: .any :: .any :: .any :: .any :: .any :: .any :: .any :: .any :: .any :: .any :: .any :: .any :: .any :: .any :: .any :: .any :: .any :: .any :: .any :: .any :: .any :: .any :: .any :: .any :: .any :: .any :: .any :: .any :: .any :: .any :: .any :: .any :: .any :: .any :: .any :: .any :: .any :: .any :: .any :: .any :: .any :: .any :: .any :: .any :: .any :: [])) (by (simp only [push_cast, TellsL, tells_any, tells_refl])) ?_
      repeat (first | (with_reducible refine AW.seq ?_) | (with_reducible refine AW.block ?_) | (with_reducible refine AW.skip ?_) | (with_reducible refine AW.ret ?_) | (with_reducible refine AW.exit ?_) | (with_reducible refine AW.reg hT ?_) | (with_reducible refine AW.drawn (id := 8) hT [0,1,2,3,5,4,6,7,8,9,10,11,12,13,14,15] [[],[0],[0,1],[0,1,2],[0,1,2,3],[0,1,2],[0,1,2,3,4,5],[0,1,2,3,4,5,6],[0,1,2,3,4,5,6,7],[0,1,2,3,4,5,6,7,8],[0,1,2,3,4,5,6,7,8,9],[0,1,2,3,4,5,6,7,8,9,10],[0,1,2,3,4,5,6,7,8,9,10,11],[0,1,2,3,4,5,6,7,8,9,10,11,12],[0,1,2,3,4,5,6,7,8,9,10,11,12,13],[0,1,2,3,4,5,6,7,8,9,10,11,12,13,14]] mix (by kernel_rfl) ?_) | (with_reducible refine AW.drawn (id := 13) hT [0,1,2,3,5,4,6,7,8] [[],[0],[0,1],[0,1,2],[0,1,2,3],[0,1,2],[0,1,2,3,4,5],[0,1,2,3,4,5,6],[0,1,2,3,4,5,6,7]] mix (by kernel_rfl) ?_) | ((with_reducible show DLeft _ _ _ _ (_ :: _) _ _ _ _); (with_reducible apply DLeft.step hT); (case hoi => ((simp only [List.getElem?_toArray,List.getElem?_cons_zero,List.getElem?_cons_succ]); with_reducible rfl)); (case hg => rfl); (case hk => rfl); (case hr => ((try simp (maxSteps := 3000000) (maxDischargeDepth := 12) only [push_cast,appendX,reduceIte,reduceCtorEq,Nat.reduceSub,Nat.reduceAdd,Nat.reduceMul,Nat.reduceLT,Nat.reduceLeDiff,Nat.reduceEqDiff,Nat.reduceBEq,Int.reduceToNat,Int.reduceLT,Int.reduceLE,Int.reduceEq,Int.reduceNeg,Try.results5,RtO,ItO,itC_len,itC_take,itC_d5,itC_leaf,oC,dc1,dc2,dce,gtx7,Heap.lt gtx7,gto7,Heap.lt gto7,gta7,Heap.lt gta7,gty7,Heap.lt gty7]); with_reducible rfl))) | ((with_reducible refine AW.cond_true ?_ ?_); · rfl) | ((with_reducible refine AW.cond_false ?_ ?_); · rfl) | simp (maxSteps := 3000000) (maxDischargeDepth := 12) only [push_cast,appendX,reduceIte,reduceCtorEq,Nat.reduceSub,Nat.reduceAdd,Nat.reduceMul,Nat.reduceLT,Nat.reduceLeDiff,Nat.reduceEqDiff,Nat.reduceBEq,Int.reduceToNat,Int.reduceLT,Int.reduceLE,Int.reduceEq,Int.reduceNeg,Try.results5,RtO,ItO,itC_len,itC_take,itC_d5,itC_leaf,oC,dc1,dc2,dce,gtx7,Heap.lt gtx7,gto7,Heap.lt gto7,gta7,Heap.lt gta7,gty7,Heap.lt gty7])
      ((apply DLeft.call (f := 18) (first := []) (cap := [])); (case hoi => ((simp only [List.getElem?_toArray, List.getElem?_cons_zero, List.getElem?_cons_succ]); with_reducible rfl)); (case hg => rfl); (case ho => rfl); (case hc => rfl); (case hf => exact fn18); (case has => rfl)); refine ACalls.mono (lours_ok _ X rfl rfl) ?_
      rintro r1 σ8 ⟨rfl, xt8⟩
      have gtx8 := xt8.get gtx7 (by simp)
      have gto8 := xt8.get gto7 (by simp)
      have gta8 := xt8.get gta7 (by simp)
      clear gtx7 gto7 gta7 gty7 xt8
      repeat (first | (with_reducible refine AW.seq ?_) | (with_reducible refine AW.block ?_) | (with_reducible refine AW.skip ?_) | (with_reducible refine AW.ret ?_) | (with_reducible refine AW.exit ?_) | (with_reducible refine AW.reg hT ?_) | (with_reducible refine AW.drawn (id := 8) hT [0,1,2,3,5,4,6,7,8,9,10,11,12,13,14,15] [[],[0],[0,1],[0,1,2],[0,1,2,3],[0,1,2],[0,1,2,3,4,5],[0,1,2,3,4,5,6],[0,1,2,3,4,5,6,7],[0,1,2,3,4,5,6,7,8],[0,1,2,3,4,5,6,7,8,9],[0,1,2,3,4,5,6,7,8,9,10],[0,1,2,3,4,5,6,7,8,9,10,11],[0,1,2,3,4,5,6,7,8,9,10,11,12],[0,1,2,3,4,5,6,7,8,9,10,11,12,13],[0,1,2,3,4,5,6,7,8,9,10,11,12,13,14]] mix (by kernel_rfl) ?_) | (with_reducible refine AW.drawn (id := 13) hT [0,1,2,3,5,4,6,7,8] [[],[0],[0,1],[0,1,2],[0,1,2,3],[0,1,2],[0,1,2,3,4,5],[0,1,2,3,4,5,6],[0,1,2,3,4,5,6,7]] mix (by kernel_rfl) ?_) | ((with_reducible show DLeft _ _ _ _ (_ :: _) _ _ _ _); (with_reducible apply DLeft.step hT); (case hoi => ((simp only [List.getElem?_toArray,List.getElem?_cons_zero,List.getElem?_cons_succ]); with_reducible rfl)); (case hg => rfl); (case hk => rfl); (case hr => ((try simp (maxSteps := 3000000) (maxDischargeDepth := 12) only [push_cast,appendX,reduceIte,reduceCtorEq,Nat.reduceSub,Nat.reduceAdd,Nat.reduceMul,Nat.reduceLT,Nat.reduceLeDiff,Nat.reduceEqDiff,Nat.reduceBEq,Int.reduceToNat,Int.reduceLT,Int.reduceLE,Int.reduceEq,Int.reduceNeg,Try.results5,RtO,ItO,itC_len,itC_take,itC_d5,itC_leaf,oC,dc1,dc2,dce,gtx8,Heap.lt gtx8,gto8,Heap.lt gto8,gta8,Heap.lt gta8]); with_reducible rfl))) | ((with_reducible refine AW.cond_true ?_ ?_); · rfl) | ((with_reducible refine AW.cond_false ?_ ?_); · rfl) | simp (maxSteps := 3000000) (maxDischargeDepth := 12) only [push_cast,appendX,reduceIte,reduceCtorEq,Nat.reduceSub,Nat.reduceAdd,Nat.reduceMul,Nat.reduceLT,Nat.reduceLeDiff,Nat.reduceEqDiff,Nat.reduceBEq,Int.reduceToNat,Int.reduceLT,Int.reduceLE,Int.reduceEq,Int.reduceNeg,Try.results5,RtO,ItO,itC_len,itC_take,itC_d5,itC_leaf,oC,dc1,dc2,dce,gtx8,Heap.lt gtx8,gto8,Heap.lt gto8,gta8,Heap.lt gta8])
      ((apply DLeft.call (f := 17) (first := []) (cap := [])); (case hoi => ((simp only [List.getElem?_toArray, List.getElem?_cons_zero, List.getElem?_cons_succ]); with_reducible rfl)); (case hg => rfl); (case ho => rfl); (case hc => rfl); (case hf => exact fn17); (case has => rfl)); refine ACalls.mono (rsame_ok _ (by omega)) ?_
      rintro r1 σ9 ⟨xt9, e2, rfl, hb2⟩
      have h2 : e2 = true := hb2.2 ⟨rfl, rfl⟩
      subst h2
      have gtx9 := xt9.get gtx8 (by simp)
      have gto9 := xt9.get gto8 (by simp)
      have gta9 := xt9.get gta8 (by simp)
      clear gtx8 gto8 gta8 xt9
      have deb1 : (bytesD b1).length = b1.length := bytesD_length _
      have dctm : ((b1.length : Int).tmod 4 == 0) = true := by rw [Int.tmod_eq_emod_of_nonneg (by omega)]; simp; omega
      repeat (first | (with_reducible refine AW.seq ?_) | (with_reducible refine AW.block ?_) | (with_reducible refine AW.skip ?_) | (with_reducible refine AW.ret ?_) | (with_reducible refine AW.exit ?_) | (with_reducible refine AW.reg hT ?_) | (with_reducible refine AW.drawn (id := 8) hT [0,1,2,3,5,4,6,7,8,9,10,11,12,13,14,15] [[],[0],[0,1],[0,1,2],[0,1,2,3],[0,1,2],[0,1,2,3,4,5],[0,1,2,3,4,5,6],[0,1,2,3,4,5,6,7],[0,1,2,3,4,5,6,7,8],[0,1,2,3,4,5,6,7,8,9],[0,1,2,3,4,5,6,7,8,9,10],[0,1,2,3,4,5,6,7,8,9,10,11],[0,1,2,3,4,5,6,7,8,9,10,11,12],[0,1,2,3,4,5,6,7,8,9,10,11,12,13],[0,1,2,3,4,5,6,7,8,9,10,11,12,13,14]] mix (by kernel_rfl) ?_) | (with_reducible refine AW.drawn (id := 13) hT [0,1,2,3,5,4,6,7,8] [[],[0],[0,1],[0,1,2],[0,1,2,3],[0,1,2],[0,1,2,3,4,5],[0,1,2,3,4,5,6],[0,1,2,3,4,5,6,7]] mix (by kernel_rfl) ?_) | ((with_reducible show DLeft _ _ _ _ (_ :: _) _ _ _ _); (with_reducible apply DLeft.step hT); (case hoi => ((simp only [List.getElem?_toArray,List.getElem?_cons_zero,List.getElem?_cons_succ]); with_reducible rfl)); (case hg => rfl); (case hk => rfl); (case hr => ((try simp (maxSteps := 3000000) (maxDischargeDepth := 12) only [push_cast,appendX,reduceIte,reduceCtorEq,Nat.reduceSub,Nat.reduceAdd,Nat.reduceMul,Nat.reduceLT,Nat.reduceLeDiff,Nat.reduceEqDiff,Nat.reduceBEq,Int.reduceToNat,Int.reduceLT,Int.reduceLE,Int.reduceEq,Int.reduceNeg,Try.results5,RtO,ItO,itC_len,itC_take,itC_d5,itC_leaf,oC,deb1,dc1,dc2,dce,gtx9,Heap.lt gtx9,gto9,Heap.lt gto9,gta9,Heap.lt gta9,dctm]); with_reducible rfl))) | ((with_reducible refine AW.cond_true ?_ ?_); · rfl) | ((with_reducible refine AW.cond_false ?_ ?_); · rfl) | simp (maxSteps := 3000000) (maxDischargeDepth := 12) only [push_cast,appendX,reduceIte,reduceCtorEq,Nat.reduceSub,Nat.reduceAdd,Nat.reduceMul,Nat.reduceLT,Nat.reduceLeDiff,Nat.reduceEqDiff,Nat.reduceBEq,Int.reduceToNat,Int.reduceLT,Int.reduceLE,Int.reduceEq,Int.reduceNeg,Try.results5,RtO,ItO,itC_len,itC_take,itC_d5,itC_leaf,oC,deb1,dc1,dc2,dce,gtx9,Heap.lt gtx9,gto9,Heap.lt gto9,gta9,Heap.lt gta9,dctm])
      exact ⟨gtx9, gto9, by (simp only [push_cast, TellsL, tells_any, tells_refl])⟩
    · have dce : (e1 == 0) = false := by rw [he]; rfl
      repeat (first | (with_reducible refine AW.seq ?_) | (with_reducible refine AW.block ?_) | (with_reducible refine AW.skip ?_) | (with_reducible refine AW.ret ?_) | (with_reducible refine AW.exit ?_) | (with_reducible refine AW.reg hT ?_) | ((with_reducible refine AW.cond_true ?_ ?_); · rfl) | ((with_reducible refine AW.cond_false ?_ ?_); · rfl) | simp (maxSteps := 3000000) (maxDischargeDepth := 12) only [push_cast,appendX,reduceIte,reduceCtorEq,Nat.reduceSub,Nat.reduceAdd,Nat.reduceMul,Nat.reduceLT,Nat.reduceLeDiff,Nat.reduceEqDiff,Nat.reduceBEq,Int.reduceToNat,Int.reduceLT,Int.reduceLE,Int.reduceEq,Int.reduceNeg,Try.results5,oC,dc1,dc2,dce])
      exact ⟨gtx5, gto5, by (simp only [push_cast, TellsL, tells_any, tells_refl])⟩
  clear gtx2 gto2
  as_aux_lemma =>
  rintro ts σ3 ⟨gtx3, gto3, hts⟩
  refine AW.told hts ?_
  clear hts
  obtain ⟨w, M, e, hu, hc⟩ := unp_cases c k ho
  refine AW.seqK (fun ts _ => TellsL ts (.any :: .any :: .ptr p 0 0 1 :: .any :: .any :: .any :: .any :: .any :: .any :: .any :: .any :: .any :: .any :: .any :: .any :: .any :: .any :: .any :: .any :: .any :: .any :: .any :: .any :: .any :: .any :: .any :: .any :: .any :: .any :: .any :: .any :: .any :: .any :: .any :: .any :: .any :: .any :: .any :: .any :: .any :: .any :: .any :: .any :: .any :: .any :: .any :: .any :: .any :: .any :: .any :: .any :: .any :: .any :: .any :: .any :: .any :: .any :: .any :: .any :: .any :: .any :: .any :: .any :: .any :: .any :: .any :: .any :: .any :: .any :: .any :: .any :: .any :: .any :: .any :: .any :: .any :: [])) ?_ ?_
  · as_aux_lemma =>
    repeat (first | (with_reducible refine AW.seq ?_) | (with_reducible refine AW.block ?_) | (with_reducible refine AW.skip ?_) | (with_reducible refine AW.ret ?_) | (with_reducible refine AW.exit ?_) | (with_reducible refine AW.reg hT ?_) | ((with_reducible refine AW.cond_true ?_ ?_); · rfl) | ((with_reducible refine AW.cond_false ?_ ?_); · rfl) | simp (maxSteps := 3000000) (maxDischargeDepth := 12) only [push_cast,appendX,reduceIte,reduceCtorEq,Nat.reduceSub,Nat.reduceAdd,Nat.reduceMul,Nat.reduceLT,Nat.reduceLeDiff,Nat.reduceEqDiff,Nat.reduceBEq,Int.reduceToNat,Int.reduceLT,Int.reduceLE,Int.reduceEq,Int.reduceNeg,Try.results5,RtO,itC_len,itC_take,itC_d5,itC_leaf,oC,dc1,dc2,gtx3,Heap.lt gtx3,gto3,Heap.lt gto3])
    refine AOpsL.call (first := []) (cap := []) hT rfl rfl rfl fn15 rfl (ACalls.mono (otheirs_ok _ c k rfl rfl) ?_)
    rintro r σ4 ⟨rfl, xt4⟩
    repeat (first | (with_reducible refine AW.seq ?_) | (with_reducible refine AW.block ?_) | (with_reducible refine AW.skip ?_) | (with_reducible refine AW.ret ?_) | (with_reducible refine AW.exit ?_) | (with_reducible refine AW.reg hT ?_) | ((with_reducible refine AW.cond_true ?_ ?_); · rfl) | ((with_reducible refine AW.cond_false ?_ ?_); · rfl) | simp (maxSteps := 3000000) (maxDischargeDepth := 12) only [push_cast,appendX,reduceIte,reduceCtorEq,Nat.reduceSub,Nat.reduceAdd,Nat.reduceMul,Nat.reduceLT,Nat.reduceLeDiff,Nat.reduceEqDiff,Nat.reduceBEq,Int.reduceToNat,Int.reduceLT,Int.reduceLE,Int.reduceEq,Int.reduceNeg,Try.results5,dc1,dc2,gtx3,Heap.lt gtx3,gto3,Heap.lt gto3,xt4.2,xt4.ltT,xt4.leT])
    refine AOpsL.call (first := []) (cap := []) hT rfl rfl rfl fn14 rfl (ACalls.mono (unpackE_ok _ ho (by omega) hwc hu) ?_)
    rintro r σ5 ⟨rfl, xt5⟩
    have gtx5 := xt5.get (xt4.get gtx3 (by simp)) (by simp)
    have gto5 := xt5.get (xt4.get gto3 (by simp)) (by simp)
    clear xt4 xt5 gtx3 gto3
    repeat ((fail_if_success (with_reducible refine AW.at1 (id := 11) ?_)); (fail_if_success (with_reducible refine AW.at2 (id := 11) ?_)); first | (with_reducible refine AW.seq ?_) | (with_reducible refine AW.block ?_) | (with_reducible refine AW.skip ?_) | (with_reducible refine AW.ret ?_) | (with_reducible refine AW.exit ?_) | (with_reducible refine AW.reg hT ?_) | ((with_reducible refine AW.cond_true ?_ ?_); · rfl) | ((with_reducible refine AW.cond_false ?_ ?_); · rfl) | simp (maxSteps := 3000000) (maxDischargeDepth := 12) only [push_cast,appendX,reduceIte,reduceCtorEq,Nat.reduceSub,Nat.reduceAdd,Nat.reduceMul,Nat.reduceLT,Nat.reduceLeDiff,Nat.reduceEqDiff,Nat.reduceBEq,Int.reduceToNat,Int.reduceLT,Int.reduceLE,Int.reduceEq,Int.reduceNeg,Try.results5,itC_len,itC_take,itC_leaf,dc1,dc2,gtx5,Heap.lt gtx5,gto5,Heap.lt gto5])
    refine AW.name (fun σ6 hσ6 => ?_)
    have gto6 : σ6.get q = some ⟨[oC c k b], 38, true⟩ := by subst hσ6; simp (maxSteps := 3000000) (maxDischargeDepth := 12) only [push_cast, appendX, Nat.reduceAdd, Nat.reduceEqDiff, Nat.reduceLT, Nat.reduceLeDiff, reduceIte, reduceCtorEq, dc1, dc2, gtx5, Heap.lt gtx5, gto5, Heap.lt gto5]
    have gty6 : σ6.get σ5.n = some (ItO w (.imm (M.map eI))) := by subst hσ6; simp (maxSteps := 3000000) (maxDischargeDepth := 12) only [push_cast, appendX, Nat.reduceAdd, Nat.reduceEqDiff, Nat.reduceLT, Nat.reduceLeDiff, reduceIte, reduceCtorEq, ItO, dc1, dc2, gtx5, Heap.lt gtx5, gto5, Heap.lt gto5, gto6, Heap.lt gto6]
    clear hσ6 gtx5 gto5
    generalize σ5.n = r at gty6 ⊢
    have gty6 := gty6
    refine AW.told (ts' := (.any :: .any :: .ptr p 0 0 1 :: .ptr q 0 0 1 :: .any :: .any :: .any :: .any :: .any :: .ptr r 0 0 1 :: .sc (.int .i64 e) :: .any :: .any :: .any :: .any :: .any :: .any :: .any :: .any :: .any :: .any :: .any :: .any :: .any :: .any :: .any :: .any :: .any :: .any :: .any :: .any :: .any :: .any :: .any :: .any :: .any :: .any :: .any :: .any :: .any :: .any :: .any :: .any :: .any :: .any :: .any :: .any :: .any :: .any :: .any :: .any :: .any :: .any :: .any :: .any :: .any :: .any :: .any :: .any :: .any :: .any :: .any :: .any :: .any :: .any :: .any :: .any :: .any :: .any :: .any :: .any :: .any :: .any :: .any :: .any :: .any :: [])) (by (simp only [push_cast, TellsL, tells_any, tells_refl])) ?_
    rcases hc with ⟨he, m1, hc1, hc2, hc3⟩ | ⟨he, _⟩
    · have dce : (e == 0) = true := by rw [he]; rfl
      have hml := may_len m1
      have hwf := may_wf (by rw [hc1]; exact hwc) m1
      have hp : packA w M = (c, k, b, 0) := by rw [pack_may m1, hc1, hc2, hc3]
      repeat (first | (with_reducible refine AW.seq ?_) | (with_reducible refine AW.block ?_) | (with_reducible refine AW.skip ?_) | (with_reducible refine AW.ret ?_) | (with_reducible refine AW.exit ?_) | (with_reducible refine AW.reg hT ?_) | ((with_reducible refine AW.cond_true ?_ ?_); · rfl) | ((with_reducible refine AW.cond_false ?_ ?_); · rfl) | simp (maxSteps := 3000000) (maxDischargeDepth := 12) only [push_cast,appendX,reduceIte,reduceCtorEq,Nat.reduceSub,Nat.reduceAdd,Nat.reduceMul,Nat.reduceLT,Nat.reduceLeDiff,Nat.reduceEqDiff,Nat.reduceBEq,Int.reduceToNat,Int.reduceLT,Int.reduceLE,Int.reduceEq,Int.reduceNeg,Try.results5,ItO,itC_len,itC_take,itC_leaf,dc1,dc2,gto6,Heap.lt gto6,gty6,Heap.lt gty6,dce])
      refine AOpsL.call (first := []) (cap := []) hT rfl rfl rfl fn9 rfl (ACalls.mono (packE_ok _ hwf (by omega) hp) ?_)
      rintro r' σ7 ⟨rfl, xt7⟩
      have gto7 := xt7.get gto6 (by simp)
      clear xt7 gto6 gty6
      repeat ((fail_if_success (with_reducible refine AW.at1 (id := 13) ?_)); (fail_if_success (with_reducible refine AW.at2 (id := 13) ?_)); first | (with_reducible refine AW.seq ?_) | (with_reducible refine AW.block ?_) | (with_reducible refine AW.skip ?_) | (with_reducible refine AW.ret ?_) | (with_reducible refine AW.exit ?_) | (with_reducible refine AW.reg hT ?_) | ((with_reducible refine AW.cond_true ?_ ?_); · rfl) | ((with_reducible refine AW.cond_false ?_ ?_); · rfl) | simp (maxSteps := 3000000) (maxDischargeDepth := 12) only [push_cast,appendX,reduceIte,reduceCtorEq,Nat.reduceSub,Nat.reduceAdd,Nat.reduceMul,Nat.reduceLT,Nat.reduceLeDiff,Nat.reduceEqDiff,Nat.reduceBEq,Int.reduceToNat,Int.reduceLT,Int.reduceLE,Int.reduceEq,Int.reduceNeg,Try.results5,oC,dc1,dc2,dce,gto7,Heap.lt gto7])
      refine AW.name (fun σ8 hσ8 => ?_)
      have gto8 : σ8.get q = some ⟨[oC c k b], 38, true⟩ := by subst hσ8; simp (maxSteps := 3000000) (maxDischargeDepth := 12) only [push_cast, appendX, Nat.reduceAdd, Nat.reduceEqDiff, Nat.reduceLT, Nat.reduceLeDiff, reduceIte, reduceCtorEq, dc1, dc2, dce, gto7, Heap.lt gto7]
      have gta8 : σ8.get σ7.n = some ⟨[oC c k b], 32, true⟩ := by subst hσ8; simp (maxSteps := 3000000) (maxDischargeDepth := 12) only [push_cast, appendX, Nat.reduceAdd, Nat.reduceEqDiff, Nat.reduceLT, Nat.reduceLeDiff, reduceIte, reduceCtorEq, oC, dc1, dc2, dce, gto7, Heap.lt gto7, gto8, Heap.lt gto8]
      clear hσ8 gto7
      generalize σ7.n = s at gta8 ⊢
      have gta8 := gta8
      refine AW.told (ts' := (.any :: .any :: .ptr p 0 0 1 :: .ptr q 0 0 1 :: .any :: .any :: .any :: .any :: .any :: .any :: .any :: .ptr s 0 0 1 :: .sc (.int .i64 0) :: .any :: .any :: .any :: .any :: .any :: .any :: .any :: .any :: .any :: .any :: .any :: .any :: .any :: .any :: .any :: .any :: .any :: .any :: .any :: .any :: .any :: .any :: .any :: .any :: .any :: .any :: .any :: .any :: .any :: .any :: .any :: .any :: .any :: .any :: .any :: .any :: .any :: .any :: .any :: .any :: .any :: .any :: .any :: .any :: .any :: .any :: .any :: .any :: .any :: .any :: .any :: .any :: .any :: .any :: .any :: .any :: .any :: .any :: .any :: .any :: .any :: .any :: .any :: [])) (by (simp only [push_cast, TellsL, tells_any, tells_refl])) ?_
      repeat (first | (with_reducible refine AW.seq ?_) | (with_reducible refine AW.block ?_) | (with_reducible refine AW.skip ?_) | (with_reducible refine AW.ret ?_) | (with_reducible refine AW.exit ?_) | (with_reducible refine AW.reg hT ?_) | (with_reducible refine AW.drawn (id := 8) hT [0,1,2,3,5,4,6,7,8,9,10,11,12,13,14,15] [[],[0],[0,1],[0,1,2],[0,1,2,3],[0,1,2],[0,1,2,3,4,5],[0,1,2,3,4,5,6],[0,1,2,3,4,5,6,7],[0,1,2,3,4,5,6,7,8],[0,1,2,3,4,5,6,7,8,9],[0,1,2,3,4,5,6,7,8,9,10],[0,1,2,3,4,5,6,7,8,9,10,11],[0,1,2,3,4,5,6,7,8,9,10,11,12],[0,1,2,3,4,5,6,7,8,9,10,11,12,13],[0,1,2,3,4,5,6,7,8,9,10,11,12,13,14]] mix (by kernel_rfl) ?_) | (with_reducible refine AW.drawn (id := 13) hT [0,1,2,3,5,4,6,7,8] [[],[0],[0,1],[0,1,2],[0,1,2,3],[0,1,2],[0,1,2,3,4,5],[0,1,2,3,4,5,6],[0,1,2,3,4,5,6,7]] mix (by kernel_rfl) ?_) | ((with_reducible show DLeft _ _ _ _ (_ :: _) _ _ _ _); (with_reducible apply DLeft.step hT); (case hoi => ((simp only [List.getElem?_toArray,List.getElem?_cons_zero,List.getElem?_cons_succ]); with_reducible rfl)); (case hg => rfl); (case hk => rfl); (case hr => ((try simp (maxSteps := 3000000) (maxDischargeDepth := 12) only [push_cast,appendX,reduceIte,reduceCtorEq,Nat.reduceSub,Nat.reduceAdd,Nat.reduceMul,Nat.reduceLT,Nat.reduceLeDiff,Nat.reduceEqDiff,Nat.reduceBEq,Int.reduceToNat,Int.reduceLT,Int.reduceLE,Int.reduceEq,Int.reduceNeg,Try.results5,oC,dc1,dc2,dce,gto8,Heap.lt gto8,gta8,Heap.lt gta8]); with_reducible rfl))) | ((with_reducible refine AW.cond_true ?_ ?_); · rfl) | ((with_reducible refine AW.cond_false ?_ ?_); · rfl) | simp (maxSteps := 3000000) (maxDischargeDepth := 12) only [push_cast,appendX,reduceIte,reduceCtorEq,Nat.reduceSub,Nat.reduceAdd,Nat.reduceMul,Nat.reduceLT,Nat.reduceLeDiff,Nat.reduceEqDiff,Nat.reduceBEq,Int.reduceToNat,Int.reduceLT,Int.reduceLE,Int.reduceEq,Int.reduceNeg,Try.results5,oC,dc1,dc2,dce,gto8,Heap.lt gto8,gta8,Heap.lt gta8])
      ((apply DLeft.call (f := 13) (first := []) (cap := [])); (case hoi => ((simp only [List.getElem?_toArray, List.getElem?_cons_zero, List.getElem?_cons_succ]); with_reducible rfl)); (case hg => rfl); (case ho => rfl); (case hc => rfl); (case hf => exact fn13); (case has => rfl)); refine ACalls.mono (oours_ok _ c k rfl rfl) ?_
      rintro r1 σ9 ⟨rfl, xt9⟩
      have gto9 := xt9.get gto8 (by simp)
      clear gto8 gta8 xt9
      repeat (first | (with_reducible refine AW.seq ?_) | (with_reducible refine AW.block ?_) | (with_reducible refine AW.skip ?_) | (with_reducible refine AW.ret ?_) | (with_reducible refine AW.exit ?_) | (with_reducible refine AW.reg hT ?_) | (with_reducible refine AW.drawn (id := 8) hT [0,1,2,3,5,4,6,7,8,9,10,11,12,13,14,15] [[],[0],[0,1],[0,1,2],[0,1,2,3],[0,1,2],[0,1,2,3,4,5],[0,1,2,3,4,5,6],[0,1,2,3,4,5,6,7],[0,1,2,3,4,5,6,7,8],[0,1,2,3,4,5,6,7,8,9],[0,1,2,3,4,5,6,7,8,9,10],[0,1,2,3,4,5,6,7,8,9,10,11],[0,1,2,3,4,5,6,7,8,9,10,11,12],[0,1,2,3,4,5,6,7,8,9,10,11,12,13],[0,1,2,3,4,5,6,7,8,9,10,11,12,13,14]] mix (by kernel_rfl) ?_) | (with_reducible refine AW.drawn (id := 13) hT [0,1,2,3,5,4,6,7,8] [[],[0],[0,1],[0,1,2],[0,1,2,3],[0,1,2],[0,1,2,3,4,5],[0,1,2,3,4,5,6],[0,1,2,3,4,5,6,7]] mix (by kernel_rfl) ?_) | ((with_reducible show DLeft _ _ _ _ (_ :: _) _ _ _ _); (with_reducible apply DLeft.step hT); (case hoi => ((simp only [List.getElem?_toArray,List.getElem?_cons_zero,List.getElem?_cons_succ]); with_reducible rfl)); (case hg => rfl); (case hk => rfl); (case hr => ((try simp (maxSteps := 3000000) (maxDischargeDepth := 12) only [push_cast,appendX,reduceIte,reduceCtorEq,Nat.reduceSub,Nat.reduceAdd,Nat.reduceMul,Nat.reduceLT,Nat.reduceLeDiff,Nat.reduceEqDiff,Nat.reduceBEq,Int.reduceToNat,Int.reduceLT,Int.reduceLE,Int.reduceEq,Int.reduceNeg,Try.results5,oC,dc1,dc2,dce,gto9,Heap.lt gto9]); with_reducible rfl))) | ((with_reducible refine AW.cond_true ?_ ?_); · rfl) | ((with_reducible refine AW.cond_false ?_ ?_); · rfl) | simp (maxSteps := 3000000) (maxDischargeDepth := 12) only [push_cast,appendX,reduceIte,reduceCtorEq,Nat.reduceSub,Nat.reduceAdd,Nat.reduceMul,Nat.reduceLT,Nat.reduceLeDiff,Nat.reduceEqDiff,Nat.reduceBEq,Int.reduceToNat,Int.reduceLT,Int.reduceLE,Int.reduceEq,Int.reduceNeg,Try.results5,oC,dc1,dc2,dce,gto9,Heap.lt gto9])
      ((apply DLeft.call (f := 12) (first := []) (cap := [])); (case hoi => ((simp only [List.getElem?_toArray, List.getElem?_cons_zero, List.getElem?_cons_succ]); with_reducible rfl)); (case hg => rfl); (case ho => rfl); (case hc => rfl); (case hf => exact fn12); (case has => rfl)); refine ACalls.mono (lsame_ok _ ho ho) ?_
      rintro r1 σ10 ⟨xt10, e2, rfl, hb2⟩
      have h2 : e2 = true := hb2.2 ⟨rfl, rfl, rfl⟩
      subst h2
      repeat (first | (with_reducible refine AW.seq ?_) | (with_reducible refine AW.block ?_) | (with_reducible refine AW.skip ?_) | (with_reducible refine AW.ret ?_) | (with_reducible refine AW.exit ?_) | (with_reducible refine AW.reg hT ?_) | (with_reducible refine AW.drawn (id := 8) hT [0,1,2,3,5,4,6,7,8,9,10,11,12,13,14,15] [[],[0],[0,1],[0,1,2],[0,1,2,3],[0,1,2],[0,1,2,3,4,5],[0,1,2,3,4,5,6],[0,1,2,3,4,5,6,7],[0,1,2,3,4,5,6,7,8],[0,1,2,3,4,5,6,7,8,9],[0,1,2,3,4,5,6,7,8,9,10],[0,1,2,3,4,5,6,7,8,9,10,11],[0,1,2,3,4,5,6,7,8,9,10,11,12],[0,1,2,3,4,5,6,7,8,9,10,11,12,13],[0,1,2,3,4,5,6,7,8,9,10,11,12,13,14]] mix (by kernel_rfl) ?_) | (with_reducible refine AW.drawn (id := 13) hT [0,1,2,3,5,4,6,7,8] [[],[0],[0,1],[0,1,2],[0,1,2,3],[0,1,2],[0,1,2,3,4,5],[0,1,2,3,4,5,6],[0,1,2,3,4,5,6,7]] mix (by kernel_rfl) ?_) | ((with_reducible show DLeft _ _ _ _ (_ :: _) _ _ _ _); (with_reducible apply DLeft.step hT); (case hoi => ((simp only [List.getElem?_toArray,List.getElem?_cons_zero,List.getElem?_cons_succ]); with_reducible rfl)); (case hg => rfl); (case hk => rfl); (case hr => ((try simp (maxSteps := 3000000) (maxDischargeDepth := 12) only [push_cast,appendX,reduceIte,reduceCtorEq,Nat.reduceSub,Nat.reduceAdd,Nat.reduceMul,Nat.reduceLT,Nat.reduceLeDiff,Nat.reduceEqDiff,Nat.reduceBEq,Int.reduceToNat,Int.reduceLT,Int.reduceLE,Int.reduceEq,Int.reduceNeg,Try.results5,dc1,dc2,dce,gto9,Heap.lt gto9,xt10.2,xt10.ltT,xt10.leT]); with_reducible rfl))) | ((with_reducible refine AW.cond_true ?_ ?_); · rfl) | ((with_reducible refine AW.cond_false ?_ ?_); · rfl) | simp (maxSteps := 3000000) (maxDischargeDepth := 12) only [push_cast,appendX,reduceIte,reduceCtorEq,Nat.reduceSub,Nat.reduceAdd,Nat.reduceMul,Nat.reduceLT,Nat.reduceLeDiff,Nat.reduceEqDiff,Nat.reduceBEq,Int.reduceToNat,Int.reduceLT,Int.reduceLE,Int.reduceEq,Int.reduceNeg,Try.results5,dc1,dc2,dce,gto9,Heap.lt gto9,xt10.2,xt10.ltT,xt10.leT])
      (simp only [push_cast, TellsL, tells_any, tells_refl])
    · have dce : (e == 0) = false := by rw [he]; rfl
      repeat (first | (with_reducible refine AW.seq ?_) | (with_reducible refine AW.block ?_) | (with_reducible refine AW.skip ?_) | (with_reducible refine AW.ret ?_) | (with_reducible refine AW.exit ?_) | (with_reducible refine AW.reg hT ?_) | ((with_reducible refine AW.cond_true ?_ ?_); · rfl) | ((with_reducible refine AW.cond_false ?_ ?_); · rfl) | simp (maxSteps := 3000000) (maxDischargeDepth := 12) only [push_cast,appendX,reduceIte,reduceCtorEq,Nat.reduceSub,Nat.reduceAdd,Nat.reduceMul,Nat.reduceLT,Nat.reduceLeDiff,Nat.reduceEqDiff,Nat.reduceBEq,Int.reduceToNat,Int.reduceLT,Int.reduceLE,Int.reduceEq,Int.reduceNeg,Try.results5,dc1,dc2,dce])
      (simp only [push_cast, TellsL, tells_any, tells_refl])
  · rintro ts σ4 hts
    refine AW.told hts ?_
    clear hts
    repeat (first | (with_reducible refine AW.seq ?_) | (with_reducible refine AW.block ?_) | (with_reducible refine AW.skip ?_) | (with_reducible refine AW.ret ?_) | (with_reducible refine AW.exit ?_) | (with_reducible refine AW.reg hT ?_) | ((with_reducible refine AW.cond_true ?_ ?_); · rfl) | ((with_reducible refine AW.cond_false ?_ ?_); · rfl) | simp (maxSteps := 3000000) (maxDischargeDepth := 12) only [push_cast,appendX,reduceIte,reduceCtorEq,Nat.reduceSub,Nat.reduceAdd,Nat.reduceMul,Nat.reduceLT,Nat.reduceLeDiff,Nat.reduceEqDiff,Nat.reduceBEq,Int.reduceToNat,Int.reduceLT,Int.reduceLE,Int.reduceEq,Int.reduceNeg,Try.results5,dc1,dc2])
end Go.Proofs.Ytdibcgcildcjnaa.Cm
