/- WholeLetter: what the law's walk needs. WholeLetter: the law's walk. -/
import Derived.Test.YtdkhlhfdjggbpaaMsgYe
import Derived.Test.YtdkhlhfdjggbpaaMsgYd
import Derived.Test.YtdkhlhfdjggbpaaLetY
namespace Go.Proofs.Ytdkhlhfdjggbpaa.Cm
open Go.RowKit
set_option linter.unusedVariables false
set_option linter.unusedSimpArgs false
set_option maxRecDepth 20000
set_option maxHeartbeats 8000000
--@SEVAL
abbrev Ms := S41
abbrev eM := e41
abbrev wM := w41
def mS (x : Ms) : Me := ⟨⟨x.f0, x.f1, x.f2.f0, x.f2.f1, x.f2.f2, x.f2.f3, x.f3, x.f4, x.f5, x.f6.f0, x.f6.f1, x.f6.f2, x.f6.f3, x.f6.f4, x.f6.f5, x.f9, x.f10, x.f11⟩, x.f7, x.f8⟩
theorem wM_wf {x : Ms} (h : wM x) (h1 : (mS x).rt.length ≤ 6000) (h2 : (mS x).rc.length ≤ 6000) : (mS x).Wf := by
  obtain ⟨k0, k1, ⟨k2, k3, k4, k5⟩, k6, k7, k8, ⟨k9, k10, k11, k12, k13, k14⟩, _, _, k15, k16, k17⟩ := h
  have hu : ∀ n : Int, (Lit.int .u32 n).wf = true → u32r n := fun n hn => by have := wf_u32 hn; exact ⟨this.1, by omega⟩
  exact ⟨wf_i64 k0, wf_i64 k1, wf_i64 k2, wf_i64 k3, wf_i64 k4, wf_i64 k5, wf_i64 k6, wf_i64 k7, wf_i64 k8, wf_u64 k9, wf_i64 k10, wf_i64 k11, hu _ k12, hu _ k13, hu _ k14, wf_i64 k15, wf_i64 k16, wf_i64 k17, by omega, by omega⟩
noncomputable def nt (z : Me) : Nt := ⟨0, 1, 0, sealM z⟩
theorem sealM_small {z : Me} (h : mayM z) : (sealM z).length ≤ 2000 := by
  have := (objs_may h.2.2.2.2.1).2.2.1
  rw [sealM_len]; omega
theorem nt_may {z : Me} (h : mayM z) : mayN (nt z) := by
  have := sealM_small h
  refine ⟨⟨by simp [nt], by simp [nt]⟩, ⟨by simp [nt], by simp [nt]⟩, by simp [nt], .inl rfl, ?_⟩
  show (sealM z).length ≤ 8192
  omega
noncomputable def wz (zs : List Me) : Wi := ⟨100, zs.map nt, 0⟩
def goodL (zs : List Me) : Prop := ∀ z ∈ zs, mayM z ∧ z.Wf
theorem wz_ok {zs : List Me} (h : goodL zs) (hl : zs.length ≤ 100) : (wz zs).Ok := ⟨by simp [wz], by simp [wz]; omega, by simp [wz], by simp [wz], fun x hx => by
  obtain ⟨z, hz, rfl⟩ := List.mem_map.1 hx
  have := sealM_small (h z hz).1
  show (sealM z).length ≤ 8192
  omega⟩
theorem wz_send {zs : List Me} {z : Me} (h : mayM z) (hl : zs.length < 100) : (wz zs).send (nt z) = (wz (zs ++ [z]), 0) := by
  unfold Wi.send
  rw [if_pos (nt_may h), if_neg (by simp [wz]; omega)]
  simp [wz]
theorem wz_twice {zs : List Me} {k : Nat} (hk : k < zs.length) : (wz zs).twice (k : Int) = if 100 ≤ zs.length then (wz zs, 7) else (wz (zs ++ [zs[k]]), 0) := by
  unfold Wi.twice
  have e : (zs.map nt).getD k zN = nt zs[k] := by simp [List.getD, List.getElem?_map, List.getElem?_eq_getElem hk]
  rw [if_pos (by simp [wz]; omega)]
  by_cases h : 100 ≤ zs.length
  · rw [if_pos h, if_pos (by simp [wz]; omega)]
  · rw [if_neg h, if_neg (by simp [wz]; omega)]
    show (({ room := 100, l := zs.map nt ++ [(zs.map nt).getD ((k : Int)).toNat zN], lost := 0 } : Wi), (0 : Int)) = _
    rw [Int.toNat_natCast, e]
    simp [wz]
theorem wz_take {zs : List Me} {k : Nat} (hk : k < zs.length) : (wz zs).take (k : Int) = (wz (zs.eraseIdx k), nt zs[k], 0) := by
  unfold Wi.take
  have e : (zs.map nt).getD k zN = nt zs[k] := by simp [List.getD, List.getElem?_map, List.getElem?_eq_getElem hk]
  rw [if_pos (by simp [wz]; omega)]
  have e2 : (zs.map nt).eraseIdx k = (zs.eraseIdx k).map nt := by
    rw [List.eraseIdx_eq_take_drop_succ, List.eraseIdx_eq_take_drop_succ, List.map_append, List.map_take, List.map_drop]
  show (({ room := 100, l := (zs.map nt).eraseIdx ((k : Int)).toNat, lost := 0 } : Wi), (zs.map nt).getD ((k : Int)).toNat zN, (0 : Int)) = _
  rw [Int.toNat_natCast, e, e2]
  rfl
theorem Wire.sep {σ : Heap} {fp : List Nat} {p : Nat} {w : Wi} {d : DV} {els : List (List DV)} (h : Wire σ fp p w) (hd : Hold σ d 41 els) : ∀ q ∈ tOf d, q ∉ fp := by
  obtain ⟨dw, rfl, hp, hh⟩ := h
  intro q hq hm
  rcases hd with ⟨rfl, _⟩ | ⟨t, full, rfl, hg, _, _⟩
  · simp [tOf] at hq
  · simp [tOf] at hq
    subst hq
    rcases List.mem_cons.1 hm with rfl | hm
    · rw [hp] at hg; simp [WObj] at hg
    · exact hh.ne hg (by simp) hm
def n0 : Nt := ⟨0, 1, 0, []⟩
def l1I (L : List Me) (b : List Int) (p : Nat) (m : Nat) (ts : List DV) (σ : Heap) : Prop := ∃ i fp d zs, m = 51 - i ∧ i ≤ L.length ∧ i ≤ 50 ∧ zs.length ≤ i ∧ goodL zs ∧ Wire σ fp p (wz zs) ∧ Hold σ d 41 (zs.map meC) ∧ TellsL ts (.imm (L.map meC) :: .imm (bytesD b) :: .any :: .any :: .any :: .ptr p 0 0 1 :: d :: .sc (.int .i64 i) :: .any :: .any :: .any :: .any :: .any :: .any :: .any :: .any :: .any :: .any :: .any :: .any :: .any :: .any :: .any :: .any :: .any :: .any :: .any :: .any :: .any :: .any :: .any :: .any :: .any :: .any :: .any :: .any :: .any :: .any :: .any :: .any :: .any :: .any :: .any :: .any :: .any :: .any :: .any :: .any :: .any :: .any :: .any :: .any :: .any :: .any :: .any :: .any :: .any :: .any :: .any :: .any :: .any :: .any :: .any :: .any :: .any :: .any :: .any :: .any :: .any :: .any :: .any :: .any :: .any :: .any :: .any :: .any :: .any :: .any :: .any :: .any :: .any :: .any :: .any :: .any :: .any :: .any :: .any :: .any :: .any :: .any :: .any :: .any :: .any :: .any :: .any :: .any :: .any :: .any :: .any :: .any :: .any :: .any :: .any :: .any :: .any :: .any :: .any :: .any :: .any :: .any :: .any :: .any :: .any :: .any :: .any :: .any :: .any :: .any :: .any :: .any :: .any :: .any :: .any :: .any :: .any :: .any :: .any :: .any :: .any :: .any :: .any :: .any :: .any :: .any :: .any :: .any :: .any :: .any :: .any :: .any :: .any :: .any :: .any :: .any :: .any :: .any :: .any :: .any :: .any :: .any :: .any :: .any :: .any :: .any :: .any :: .any :: .any :: .any :: .any :: .any :: .any :: .any :: .any :: .any :: .any :: .any :: .any :: .any :: .any :: .any :: .any :: .any :: .any :: [])
def l2I (b : List Int) (p : Nat) (m : Nat) (ts : List DV) (σ : Heap) : Prop := ∃ j fp d zs, m = b.length + 1 - j ∧ j ≤ b.length ∧ zs.length ≤ 100 ∧ goodL zs ∧ Wire σ fp p (wz zs) ∧ Hold σ d 41 (zs.map meC) ∧ TellsL ts (.any :: .imm (bytesD b) :: .any :: .any :: .any :: .ptr p 0 0 1 :: d :: .any :: .any :: .any :: .sc (.int .i64 j) :: .any :: .any :: .any :: .any :: .any :: .any :: .any :: .any :: .any :: .any :: .any :: .any :: .any :: .any :: .any :: .any :: .any :: .any :: .any :: .any :: .any :: .any :: .any :: .any :: .any :: .any :: .any :: .any :: .any :: .any :: .any :: .any :: .any :: .any :: .any :: .any :: .any :: .any :: .any :: .any :: .any :: .any :: .any :: .any :: .any :: .any :: .any :: .any :: .any :: .any :: .any :: .any :: .any :: .any :: .any :: .any :: .any :: .any :: .any :: .any :: .any :: .any :: .any :: .any :: .any :: .any :: .any :: .any :: .any :: .any :: .any :: .any :: .any :: .any :: .any :: .any :: .any :: .any :: .any :: .any :: .any :: .any :: .any :: .any :: .any :: .any :: .any :: .any :: .any :: .any :: .any :: .any :: .any :: .any :: .any :: .any :: .any :: .any :: .any :: .any :: .any :: .any :: .any :: .any :: .any :: .any :: .any :: .any :: .any :: .any :: .any :: .any :: .any :: .any :: .any :: .any :: .any :: .any :: .any :: .any :: .any :: .any :: .any :: .any :: .any :: .any :: .any :: .any :: .any :: .any :: .any :: .any :: .any :: .any :: .any :: .any :: .any :: .any :: .any :: .any :: .any :: .any :: .any :: .any :: .any :: .any :: .any :: .any :: .any :: .any :: .any :: .any :: .any :: .any :: .any :: .any :: .any :: .any :: .any :: .any :: .any :: .any :: [])
open Classical in
theorem letterZ (σ : Heap) {L : List Me} {b : List Int} (hL : ∀ z ∈ L, z.rt.length ≤ 6000 ∧ z.rc.length ≤ 6000 → z.Wf) (ho : Octs b) (hbl : b.length ≤ 140737488351232) : ACalls Try.prog 3 [.imm (L.map meC), .imm (bytesD b)] σ (fun y σ' => y = .sc (.bool true)) := by
  have dcLl : (L.map meC).length = L.length := List.length_map ..
  have dcbl : (bytesD b).length = b.length := bytesD_length _
  refine ACalls.code hT Try.func3 rfl ?_
  simp only [Try.ntmps3, List.length_cons, List.length_nil, Nat.reduceSub, Nat.reduceAdd, List.replicate, List.cons_append, List.nil_append]
  repeat (first | (with_reducible first | refine AW.seq ?_ | refine AW.block ?_ | refine AW.skip ?_ | refine AW.ret ?_ | refine AW.exit ?_ | refine AW.reg hT ?_) | ((with_reducible refine AW.cond_true ?_ ?_); · (simp (maxSteps := 3000000) (maxDischargeDepth := 12) only [seval,push_cast,appendX,dcLl,dcbl]; done)) | ((with_reducible refine AW.cond_false ?_ ?_); · (simp (maxSteps := 3000000) (maxDischargeDepth := 12) only [seval,push_cast,appendX,dcLl,dcbl]; done)) | simp (maxSteps := 3000000) (maxDischargeDepth := 12) only [seval,push_cast,appendX,Try.results3,dcLl,dcbl])
  refine AOpsL.call (first := []) (cap := []) hT rfl rfl rfl fn4 rfl (ACalls.mono (wnew0_ok _ 100 (by decide) (by decide)) ?_)
  rintro y σ1 ⟨rfl, hσ1⟩
  have hw1 : Wire σ1 [σ.n] σ.n ⟨100, [], 0⟩ := by subst hσ1; exact new_wire σ 100
  clear hσ1
  generalize σ.n = p at hw1 ⊢
  repeat (first | (with_reducible first | refine AW.seq ?_ | refine AW.block ?_ | refine AW.skip ?_ | refine AW.ret ?_ | refine AW.exit ?_ | refine AW.reg hT ?_) | ((with_reducible refine AW.cond_true ?_ ?_); · (simp (maxSteps := 3000000) (maxDischargeDepth := 12) only [seval,push_cast,appendX,dcLl,dcbl]; done)) | ((with_reducible refine AW.cond_false ?_ ?_); · (simp (maxSteps := 3000000) (maxDischargeDepth := 12) only [seval,push_cast,appendX,dcLl,dcbl]; done)) | simp (maxSteps := 3000000) (maxDischargeDepth := 12) only [seval,push_cast,appendX,Try.results3,dcLl,dcbl])
  refine AOpsL.call (first := []) (cap := []) hT rfl rfl rfl fn5 rfl (ACalls.mono (ACalls.told (args' := [.ptr p 0 0 1, .agg (eN n0)]) ⟨Tells.refl _, Tells.agg ⟨Tells.refl _, Tells.refl _, Tells.refl _, Tells.nil, trivial⟩, trivial⟩ (wsend0_ok _ n0 hw1 ⟨by decide, by simp, by decide, by decide, by simp⟩)) ?_)
  rw [show Wi.send ⟨100, [], 0⟩ n0 = (⟨100, [n0], 0⟩, 0) from rfl]
  rintro y σ2 ⟨rfl, fp2, hw2, _⟩
  repeat (first | (with_reducible first | refine AW.seq ?_ | refine AW.block ?_ | refine AW.skip ?_ | refine AW.ret ?_ | refine AW.exit ?_ | refine AW.reg hT ?_) | ((with_reducible refine AW.cond_true ?_ ?_); · (simp (maxSteps := 3000000) (maxDischargeDepth := 12) only [seval,push_cast,appendX,dcLl,dcbl]; done)) | ((with_reducible refine AW.cond_false ?_ ?_); · (simp (maxSteps := 3000000) (maxDischargeDepth := 12) only [seval,push_cast,appendX,dcLl,dcbl]; done)) | simp (maxSteps := 3000000) (maxDischargeDepth := 12) only [seval,push_cast,appendX,Try.results3,dcLl,dcbl])
  refine AOpsL.call (first := []) (cap := []) hT rfl rfl rfl fn6 rfl (ACalls.mono (wtwice0_ok _ 0 hw2 ⟨by decide, by simp, by decide, by decide, by simp [n0]⟩) ?_)
  rw [show Wi.twice ⟨100, [n0], 0⟩ 0 = (⟨100, [n0, n0], 0⟩, 0) from rfl]
  rintro y σ3 ⟨rfl, fp3, hw3, _⟩
  repeat (first | (with_reducible first | refine AW.seq ?_ | refine AW.block ?_ | refine AW.skip ?_ | refine AW.ret ?_ | refine AW.exit ?_ | refine AW.reg hT ?_) | ((with_reducible refine AW.cond_true ?_ ?_); · (simp (maxSteps := 3000000) (maxDischargeDepth := 12) only [seval,push_cast,appendX,dcLl,dcbl]; done)) | ((with_reducible refine AW.cond_false ?_ ?_); · (simp (maxSteps := 3000000) (maxDischargeDepth := 12) only [seval,push_cast,appendX,dcLl,dcbl]; done)) | simp (maxSteps := 3000000) (maxDischargeDepth := 12) only [seval,push_cast,appendX,Try.results3,dcLl,dcbl])
  refine AOpsL.call (first := []) (cap := []) hT rfl rfl rfl fn7 rfl (ACalls.mono (wtake0_ok _ 0 trivial hw3 ⟨by decide, by simp, by decide, by decide, by simp [n0]⟩) ?_)
  rw [show Wi.take ⟨100, [n0, n0], 0⟩ 0 = (⟨100, [n0], 0⟩, n0, 0) from rfl]
  rintro y σ4 ⟨rfl, fp4, hw4, _⟩
  repeat (first | (with_reducible first | refine AW.seq ?_ | refine AW.block ?_ | refine AW.skip ?_ | refine AW.ret ?_ | refine AW.exit ?_ | refine AW.reg hT ?_) | ((with_reducible refine AW.cond_true ?_ ?_); · (simp (maxSteps := 3000000) (maxDischargeDepth := 12) only [seval,push_cast,appendX,dcLl,dcbl]; done)) | ((with_reducible refine AW.cond_false ?_ ?_); · (simp (maxSteps := 3000000) (maxDischargeDepth := 12) only [seval,push_cast,appendX,dcLl,dcbl]; done)) | simp (maxSteps := 3000000) (maxDischargeDepth := 12) only [seval,push_cast,appendX,Try.results3,dcLl,dcbl])
  refine AOpsL.call (first := []) (cap := []) hT rfl rfl rfl fn7 rfl (ACalls.mono (wtake0_ok _ 0 trivial hw4 ⟨by decide, by simp, by decide, by decide, by simp [n0]⟩) ?_)
  rw [show Wi.take ⟨100, [n0], 0⟩ 0 = (⟨100, [], 0⟩, n0, 0) from rfl]
  rintro y σ5 ⟨rfl, fp5, hw5, _⟩
  clear hw1 hw2 hw3 hw4
  repeat ((fail_if_success (with_reducible refine AW.at1 (id := 7) ?_)); (fail_if_success (with_reducible refine AW.at2 (id := 7) ?_)); first | (with_reducible first | refine AW.seq ?_ | refine AW.block ?_ | refine AW.skip ?_ | refine AW.ret ?_ | refine AW.exit ?_ | refine AW.reg hT ?_) | ((with_reducible refine AW.cond_true ?_ ?_); · (simp (maxSteps := 3000000) (maxDischargeDepth := 12) only [seval,push_cast,appendX,dcLl,dcbl]; done)) | ((with_reducible refine AW.cond_false ?_ ?_); · (simp (maxSteps := 3000000) (maxDischargeDepth := 12) only [seval,push_cast,appendX,dcLl,dcbl]; done)) | simp (maxSteps := 3000000) (maxDischargeDepth := 12) only [seval,push_cast,appendX,Try.results3,dcLl,dcbl])
  refine AW.seqK (fun ts σ' => ∃ fp d zs, zs.length ≤ 50 ∧ goodL zs ∧ Wire σ' fp p (wz zs) ∧ Hold σ' d 41 (zs.map meC) ∧ TellsL ts (.any :: .imm (bytesD b) :: .any :: .any :: .any :: .ptr p 0 0 1 :: d :: .any :: .any :: .any :: .any :: .any :: .any :: .any :: .any :: .any :: .any :: .any :: .any :: .any :: .any :: .any :: .any :: .any :: .any :: .any :: .any :: .any :: .any :: .any :: .any :: .any :: .any :: .any :: .any :: .any :: .any :: .any :: .any :: .any :: .any :: .any :: .any :: .any :: .any :: .any :: .any :: .any :: .any :: .any :: .any :: .any :: .any :: .any :: .any :: .any :: .any :: .any :: .any :: .any :: .any :: .any :: .any :: .any :: .any :: .any :: .any :: .any :: .any :: .any :: .any :: .any :: .any :: .any :: .any :: .any :: .any :: .any :: .any :: .any :: .any :: .any :: .any :: .any :: .any :: .any :: .any :: .any :: .any :: .any :: .any :: .any :: .any :: .any :: .any :: .any :: .any :: .any :: .any :: .any :: .any :: .any :: .any :: .any :: .any :: .any :: .any :: .any :: .any :: .any :: .any :: .any :: .any :: .any :: .any :: .any :: .any :: .any :: .any :: .any :: .any :: .any :: .any :: .any :: .any :: .any :: .any :: .any :: .any :: .any :: .any :: .any :: .any :: .any :: .any :: .any :: .any :: .any :: .any :: .any :: .any :: .any :: .any :: .any :: .any :: .any :: .any :: .any :: .any :: .any :: .any :: .any :: .any :: .any :: .any :: .any :: .any :: .any :: .any :: .any :: .any :: .any :: .any :: .any :: .any :: .any :: .any :: .any :: .any :: .any :: .any :: .any :: .any :: [])) ?_ ?_
  · repeat (first | (with_reducible first | refine AW.seq ?_ | refine AW.block ?_ | refine AW.skip ?_ | refine AW.ret ?_ | refine AW.exit ?_ | refine AW.reg hT ?_) | ((with_reducible refine AW.cond_true ?_ ?_); · (simp (maxSteps := 3000000) (maxDischargeDepth := 12) only [seval,push_cast,appendX,dcLl,dcbl]; done)) | ((with_reducible refine AW.cond_false ?_ ?_); · (simp (maxSteps := 3000000) (maxDischargeDepth := 12) only [seval,push_cast,appendX,dcLl,dcbl]; done)) | simp (maxSteps := 3000000) (maxDischargeDepth := 12) only [seval,push_cast,appendX,Try.results3,dcLl,dcbl])
    refine AW.loop (l1I L b p) (m := 51) ⟨0, fp5, nilS, [], rfl, Nat.zero_le _, by decide, by simp, by simp [goodL], hw5, Hold.nil _ _, by (simp only [push_cast, TellsL, tells_any, tells_refl])⟩ ?_
    clear hw5
    rintro m ts σ6 ⟨i, fp, d, zs, rfl, hiL, hi50, hzl, hgood, hw, hh, hts⟩
    refine AW.told hts ?_
    clear hts
    by_cases hi : i < L.length ∧ i < 50
    · obtain ⟨hi1, hi2⟩ := hi
      have dci1 : decide ((i : Int) < (L.length : Int)) = true := by simp; omega
      have dci2 : decide ((i : Int) < 50) = true := by simp; omega
      have dci3 : ((i : Int) < (L.length : Int)) = True := by simp; omega
      have dci0 : ((0 : Int) ≤ (i : Int)) = True := by simp
      have dciw : IntKind.i64.wrap ((i : Int) + 1) = (i : Int) + 1 := wrap_i64 (by omega) (by omega)
      have hicc : (((i + 1 : Nat)) : Int) = (i : Int) + 1 := by omega
      obtain ⟨z, hz⟩ : ∃ z, L[i]? = some z := ⟨_, List.getElem?_eq_getElem hi1⟩
      have hzL := hL z (List.mem_of_getElem? hz)
      have hel : (L.map meC)[i]? = some (meC z) := by rw [List.getElem?_map, hz]; rfl
      have dcel := hel
      have dcrt : (z.rt.map eI).length = z.rt.length := List.length_map ..
      have dcrc : (z.rc.map eI).length = z.rc.length := List.length_map ..
      by_cases hr1 : 1000 < z.rt.length
      · have dcr1 : decide (1000 < (z.rt.length : Int)) = true := by simp; omega
        repeat (first | (with_reducible first | refine AW.seq ?_ | refine AW.block ?_ | refine AW.skip ?_ | refine AW.ret ?_ | refine AW.exit ?_ | refine AW.reg hT ?_) | ((with_reducible refine AW.cond_true ?_ ?_); · (simp (maxSteps := 3000000) (maxDischargeDepth := 12) only [seval,push_cast,appendX,dcLl,dcbl,dci1,dci2,dci3,dci0,dciw,dcel,dcrt,dcrc,dcr1]; done)) | ((with_reducible refine AW.cond_false ?_ ?_); · (simp (maxSteps := 3000000) (maxDischargeDepth := 12) only [seval,push_cast,appendX,dcLl,dcbl,dci1,dci2,dci3,dci0,dciw,dcel,dcrt,dcrc,dcr1]; done)) | simp (maxSteps := 3000000) (maxDischargeDepth := 12) only [seval,push_cast,appendX,Try.results3,meC,mgC,dcLl,dcbl,dci1,dci2,dci3,dci0,dciw,dcel,dcrt,dcrc,dcr1])
        exact ⟨51 - (i + 1), by omega, i + 1, fp, d, zs, rfl, hi1, by omega, by omega, hgood, hw, hh, by (simp only [push_cast, TellsL, tells_any, tells_refl, hicc])⟩
      · have dcr1 : decide (1000 < (z.rt.length : Int)) = false := by simp; omega
        by_cases hr2 : 1000 < z.rc.length
        · have dcr2 : decide (1000 < (z.rc.length : Int)) = true := by simp; omega
          repeat (first | (with_reducible first | refine AW.seq ?_ | refine AW.block ?_ | refine AW.skip ?_ | refine AW.ret ?_ | refine AW.exit ?_ | refine AW.reg hT ?_) | ((with_reducible refine AW.cond_true ?_ ?_); · (simp (maxSteps := 3000000) (maxDischargeDepth := 12) only [seval,push_cast,appendX,dcLl,dcbl,dci1,dci2,dci3,dci0,dciw,dcel,dcrt,dcrc,dcr1,dcr2]; done)) | ((with_reducible refine AW.cond_false ?_ ?_); · (simp (maxSteps := 3000000) (maxDischargeDepth := 12) only [seval,push_cast,appendX,dcLl,dcbl,dci1,dci2,dci3,dci0,dciw,dcel,dcrt,dcrc,dcr1,dcr2]; done)) | simp (maxSteps := 3000000) (maxDischargeDepth := 12) only [seval,push_cast,appendX,Try.results3,meC,mgC,dcLl,dcbl,dci1,dci2,dci3,dci0,dciw,dcel,dcrt,dcrc,dcr1,dcr2])
          exact ⟨51 - (i + 1), by omega, i + 1, fp, d, zs, rfl, hi1, by omega, by omega, hgood, hw, hh, by (simp only [push_cast, TellsL, tells_any, tells_refl, hicc])⟩
        · have dcr2 : decide (1000 < (z.rc.length : Int)) = false := by simp; omega
          have hwf := hzL ⟨by omega, by omega⟩
          have hE := fun σ' => mencI_ok σ' hwf
          repeat (first | (with_reducible first | refine AW.seq ?_ | refine AW.block ?_ | refine AW.skip ?_ | refine AW.ret ?_ | refine AW.exit ?_ | refine AW.reg hT ?_) | ((with_reducible refine AW.cond_true ?_ ?_); · (simp (maxSteps := 3000000) (maxDischargeDepth := 12) only [seval,push_cast,appendX,dcLl,dcbl,dci1,dci2,dci3,dci0,dciw,dcel,dcrt,dcrc,dcr1,dcr2]; done)) | ((with_reducible refine AW.cond_false ?_ ?_); · (simp (maxSteps := 3000000) (maxDischargeDepth := 12) only [seval,push_cast,appendX,dcLl,dcbl,dci1,dci2,dci3,dci0,dciw,dcel,dcrt,dcrc,dcr1,dcr2]; done)) | simp (maxSteps := 3000000) (maxDischargeDepth := 12) only [seval,push_cast,appendX,Try.results3,meC,mgC,dcLl,dcbl,dci1,dci2,dci3,dci0,dciw,dcel,dcrt,dcrc,dcr1,dcr2])
          refine AOpsL.call (first := []) (cap := []) hT rfl rfl rfl fn9 rfl (ACalls.mono (theirs_ok _ z) ?_)
          rintro y σ7 ⟨rfl, xt7⟩
          have hw7 := hw.frame xt7 (by simp)
          have hh7 := hh.frame xt7 (by simp)
          clear hw hh xt7
          by_cases hm : ¬ mayM z
          · simp only [encM_no hm] at hE
            have dc20 : ((2 : Int) == 0) = false := rfl
            repeat (first | (with_reducible first | refine AW.seq ?_ | refine AW.block ?_ | refine AW.skip ?_ | refine AW.ret ?_ | refine AW.exit ?_ | refine AW.reg hT ?_) | ((with_reducible refine AW.cond_true ?_ ?_); · (simp (maxSteps := 3000000) (maxDischargeDepth := 12) only [seval,push_cast,appendX,dcLl,dcbl,dci1,dci2,dci3,dci0,dciw,dcel,dcrt,dcrc,dcr1,dcr2,dc20]; done)) | ((with_reducible refine AW.cond_false ?_ ?_); · (simp (maxSteps := 3000000) (maxDischargeDepth := 12) only [seval,push_cast,appendX,dcLl,dcbl,dci1,dci2,dci3,dci0,dciw,dcel,dcrt,dcrc,dcr1,dcr2,dc20]; done)) | simp (maxSteps := 3000000) (maxDischargeDepth := 12) only [seval,push_cast,appendX,Try.results3,dcLl,dcbl,dci1,dci2,dci3,dci0,dciw,dcel,dcrt,dcrc,dcr1,dcr2,dc20])
            refine AOpsL.call (first := []) (cap := []) hT rfl rfl rfl fn8 rfl (ACalls.mono (hE _) ?_)
            rintro y σ8 ⟨rfl, xt8⟩
            repeat (first | (with_reducible first | refine AW.seq ?_ | refine AW.block ?_ | refine AW.skip ?_ | refine AW.ret ?_ | refine AW.exit ?_ | refine AW.reg hT ?_) | ((with_reducible refine AW.cond_true ?_ ?_); · (simp (maxSteps := 3000000) (maxDischargeDepth := 12) only [seval,push_cast,appendX,dcLl,dcbl,dci1,dci2,dci3,dci0,dciw,dcel,dcrt,dcrc,dcr1,dcr2,dc20,xt8.2,xt8.ltT,xt8.leT]; done)) | ((with_reducible refine AW.cond_false ?_ ?_); · (simp (maxSteps := 3000000) (maxDischargeDepth := 12) only [seval,push_cast,appendX,dcLl,dcbl,dci1,dci2,dci3,dci0,dciw,dcel,dcrt,dcrc,dcr1,dcr2,dc20,xt8.2,xt8.ltT,xt8.leT]; done)) | simp (maxSteps := 3000000) (maxDischargeDepth := 12) only [seval,push_cast,appendX,Try.results3,dcLl,dcbl,dci1,dci2,dci3,dci0,dciw,dcel,dcrt,dcrc,dcr1,dcr2,dc20,xt8.2,xt8.ltT,xt8.leT])
            exact ⟨51 - (i + 1), by omega, i + 1, fp, d, zs, rfl, hi1, by omega, by omega, hgood, hw7.frame xt8 (by simp), hh7.frame xt8 (by simp), by (simp only [push_cast, TellsL, tells_any, tells_refl, hicc])⟩
          · have hm := Decidable.not_not.1 hm
            simp only [encM_yes hm] at hE
            repeat (first | (with_reducible first | refine AW.seq ?_ | refine AW.block ?_ | refine AW.skip ?_ | refine AW.ret ?_ | refine AW.exit ?_ | refine AW.reg hT ?_) | ((with_reducible refine AW.cond_true ?_ ?_); · (simp (maxSteps := 3000000) (maxDischargeDepth := 12) only [seval,push_cast,appendX,dcLl,dcbl,dci1,dci2,dci3,dci0,dciw,dcel,dcrt,dcrc,dcr1,dcr2]; done)) | ((with_reducible refine AW.cond_false ?_ ?_); · (simp (maxSteps := 3000000) (maxDischargeDepth := 12) only [seval,push_cast,appendX,dcLl,dcbl,dci1,dci2,dci3,dci0,dciw,dcel,dcrt,dcrc,dcr1,dcr2]; done)) | simp (maxSteps := 3000000) (maxDischargeDepth := 12) only [seval,push_cast,appendX,Try.results3,dcLl,dcbl,dci1,dci2,dci3,dci0,dciw,dcel,dcrt,dcrc,dcr1,dcr2])
            refine AOpsL.call (first := []) (cap := []) hT rfl rfl rfl fn8 rfl (ACalls.mono (hE _) ?_)
            rintro y σ8 ⟨rfl, xt8⟩
            have hw8 := hw7.frame xt8 (by simp)
            have hh8 := hh7.frame xt8 (by simp)
            clear hw7 hh7 xt8 hE
            have hS := wsend0_ok σ8 (nt z) hw8 (wz_ok hgood (by omega))
            rw [wz_send hm (by omega)] at hS
            repeat (first | (with_reducible first | refine AW.seq ?_ | refine AW.block ?_ | refine AW.skip ?_ | refine AW.ret ?_ | refine AW.exit ?_ | refine AW.reg hT ?_) | ((with_reducible refine AW.cond_true ?_ ?_); · (simp (maxSteps := 3000000) (maxDischargeDepth := 12) only [seval,push_cast,appendX,dcLl,dcbl,dci1,dci2,dci3,dci0,dciw,dcel,dcrt,dcrc,dcr1,dcr2]; done)) | ((with_reducible refine AW.cond_false ?_ ?_); · (simp (maxSteps := 3000000) (maxDischargeDepth := 12) only [seval,push_cast,appendX,dcLl,dcbl,dci1,dci2,dci3,dci0,dciw,dcel,dcrt,dcrc,dcr1,dcr2]; done)) | simp (maxSteps := 3000000) (maxDischargeDepth := 12) only [seval,push_cast,appendX,Try.results3,dcLl,dcbl,dci1,dci2,dci3,dci0,dciw,dcel,dcrt,dcrc,dcr1,dcr2])
            refine AOpsL.call (first := []) (cap := []) hT rfl rfl rfl fn5 rfl (ACalls.mono (hS) ?_)
            rintro y σ9 ⟨rfl, fp9, hw9, hx9⟩
            have hh9 := hh8.frame hx9.1 (hw8.sep hh8)
            have hgood2 : goodL (zs ++ [z]) := fun y hy => by
              rcases List.mem_append.1 hy with h | h
              · exact hgood y h
              · rw [List.mem_singleton.1 h]; exact ⟨hm, hwf⟩
            obtain ⟨dA, σA, dnapp, hhA, hnewA, heA⟩ := hh9.app1y (ty := 22) (x := meC z) rfl rfl (by decide) rfl (by simp; omega)
            have hwA : Wire σA fp9 p (wz (zs ++ [z])) := (hw9.frame ((Ext.refl [] _).push _) (by simp)).frame heA (fun q hq hm2 => hw9.sep hh9 q hm2 hq)
            simp only [meC, mgC] at dnapp
            repeat (first | (with_reducible first | refine AW.seq ?_ | refine AW.block ?_ | refine AW.skip ?_ | refine AW.ret ?_ | refine AW.exit ?_ | refine AW.reg hT ?_) | ((with_reducible refine AW.cond_true ?_ ?_); · (simp (maxSteps := 3000000) (maxDischargeDepth := 12) only [seval,push_cast,appendX,dcLl,dcbl,dci1,dci2,dci3,dci0,dciw,dcel,dcrt,dcrc,dcr1,dcr2,↓dnapp]; done)) | ((with_reducible refine AW.cond_false ?_ ?_); · (simp (maxSteps := 3000000) (maxDischargeDepth := 12) only [seval,push_cast,appendX,dcLl,dcbl,dci1,dci2,dci3,dci0,dciw,dcel,dcrt,dcrc,dcr1,dcr2,↓dnapp]; done)) | simp (maxSteps := 3000000) (maxDischargeDepth := 12) only [seval,push_cast,appendX,Try.results3,meC,mgC,dcLl,dcbl,dci1,dci2,dci3,dci0,dciw,dcel,dcrt,dcrc,dcr1,dcr2,↓dnapp])
            exact ⟨51 - (i + 1), by omega, i + 1, fp9, dA, zs ++ [z], rfl, hi1, by omega, by simp; omega, hgood2, hwA, by simpa using hhA, by (simp only [push_cast, TellsL, tells_any, tells_refl, hicc])⟩
    · by_cases hi1 : i < L.length
      · have dci1 : decide ((i : Int) < (L.length : Int)) = true := by simp; omega
        have dci2 : decide ((i : Int) < 50) = false := by simp; omega
        repeat (first | (with_reducible first | refine AW.seq ?_ | refine AW.block ?_ | refine AW.skip ?_ | refine AW.ret ?_ | refine AW.exit ?_ | refine AW.reg hT ?_) | ((with_reducible refine AW.cond_true ?_ ?_); · (simp (maxSteps := 3000000) (maxDischargeDepth := 12) only [seval,push_cast,appendX,dcLl,dcbl,dci1,dci2]; done)) | ((with_reducible refine AW.cond_false ?_ ?_); · (simp (maxSteps := 3000000) (maxDischargeDepth := 12) only [seval,push_cast,appendX,dcLl,dcbl,dci1,dci2]; done)) | simp (maxSteps := 3000000) (maxDischargeDepth := 12) only [seval,push_cast,appendX,Try.results3,dcLl,dcbl,dci1,dci2])
        exact ⟨fp, d, zs, by omega, hgood, hw, hh, by (simp only [push_cast, TellsL, tells_any, tells_refl])⟩
      · have dci1 : decide ((i : Int) < (L.length : Int)) = false := by simp; omega
        repeat (first | (with_reducible first | refine AW.seq ?_ | refine AW.block ?_ | refine AW.skip ?_ | refine AW.ret ?_ | refine AW.exit ?_ | refine AW.reg hT ?_) | ((with_reducible refine AW.cond_true ?_ ?_); · (simp (maxSteps := 3000000) (maxDischargeDepth := 12) only [seval,push_cast,appendX,dcLl,dcbl,dci1]; done)) | ((with_reducible refine AW.cond_false ?_ ?_); · (simp (maxSteps := 3000000) (maxDischargeDepth := 12) only [seval,push_cast,appendX,dcLl,dcbl,dci1]; done)) | simp (maxSteps := 3000000) (maxDischargeDepth := 12) only [seval,push_cast,appendX,Try.results3,dcLl,dcbl,dci1])
        exact ⟨fp, d, zs, by omega, hgood, hw, hh, by (simp only [push_cast, TellsL, tells_any, tells_refl])⟩
  · rintro ts σ6 ⟨fp, d, zs, hzl, hgood, hw, hh, hts⟩
    refine AW.told hts ?_
    clear hts hw5 dcLl
    have hlen : lenD T 22 d = some (zs.length : Int) := lenH hh rfl
    have dnl := hlen
    have dnlc := hh.cells
    repeat (first | (with_reducible first | refine AW.seq ?_ | refine AW.block ?_ | refine AW.skip ?_ | refine AW.ret ?_ | refine AW.exit ?_ | refine AW.reg hT ?_) | ((with_reducible refine AW.cond_true ?_ ?_); · (simp (maxSteps := 3000000) (maxDischargeDepth := 12) only [seval,push_cast,appendX,dcbl,↓dnl,↓dnlc]; done)) | ((with_reducible refine AW.cond_false ?_ ?_); · (simp (maxSteps := 3000000) (maxDischargeDepth := 12) only [seval,push_cast,appendX,dcbl,↓dnl,↓dnlc]; done)) | simp (maxSteps := 3000000) (maxDischargeDepth := 12) only [seval,push_cast,appendX,Try.results3,dcbl,↓dnl,↓dnlc])
    refine AOpsL.call (first := []) (cap := []) hT rfl rfl rfl fn10 rfl (ACalls.mono (wlen_ok _ hw (by simp [wz])) ?_)
    rw [show (wz zs).l.length = zs.length from by simp [wz]]
    rintro y σ' ⟨rfl, rfl⟩
    repeat (first | (with_reducible first | refine AW.seq ?_ | refine AW.block ?_ | refine AW.skip ?_ | refine AW.ret ?_ | refine AW.exit ?_ | refine AW.reg hT ?_) | ((with_reducible refine AW.cond_true ?_ ?_); · (simp (maxSteps := 3000000) (maxDischargeDepth := 12) only [seval,push_cast,appendX,dcbl,↓dnl,↓dnlc]; done)) | ((with_reducible refine AW.cond_false ?_ ?_); · (simp (maxSteps := 3000000) (maxDischargeDepth := 12) only [seval,push_cast,appendX,dcbl,↓dnl,↓dnlc]; done)) | simp (maxSteps := 3000000) (maxDischargeDepth := 12) only [seval,push_cast,appendX,Try.results3,dcbl,↓dnl,↓dnlc])
    refine AW.loop (l2I b p) (m := b.length + 1) ⟨0, fp, d, zs, rfl, Nat.zero_le _, by omega, hgood, hw, hh, by (simp only [push_cast, TellsL, tells_any, tells_refl])⟩ ?_
    clear dnl dnlc hlen hw hh hgood hzl
    rintro m ts σ7 ⟨j, fp, d, zs, rfl, hj, hzl, hgood, hw, hh, hts⟩
    refine AW.told hts ?_
    clear hts
    have hlen : lenD T 22 d = some (zs.length : Int) := lenH hh rfl
    have dnl := hlen
    have dnlc := hh.cells
    have dnlf := hh.leaf
    by_cases hc : ¬ (j < b.length ∧ 0 < zs.length)
    · have hwl : (wz zs).l.length = zs.length := by simp [wz]
      by_cases hj1 : j < b.length
      · have dcj1 : decide ((j : Int) < (b.length : Int)) = true := by simp; omega
        have dcj2 : decide (0 < (zs.length : Int)) = false := decide_eq_false (by omega)
        repeat (first | (with_reducible first | refine AW.seq ?_ | refine AW.block ?_ | refine AW.skip ?_ | refine AW.ret ?_ | refine AW.exit ?_ | refine AW.reg hT ?_) | ((with_reducible refine AW.cond_true ?_ ?_); · (simp (maxSteps := 3000000) (maxDischargeDepth := 12) only [seval,push_cast,appendX,dcbl,↓dnl,↓dnlc,↓dnlf,dcj1,dcj2]; done)) | ((with_reducible refine AW.cond_false ?_ ?_); · (simp (maxSteps := 3000000) (maxDischargeDepth := 12) only [seval,push_cast,appendX,dcbl,↓dnl,↓dnlc,↓dnlf,dcj1,dcj2]; done)) | simp (maxSteps := 3000000) (maxDischargeDepth := 12) only [seval,push_cast,appendX,Try.results3,dcbl,↓dnl,↓dnlc,↓dnlf,dcj1,dcj2])
        refine AOpsL.call (first := []) (cap := []) hT rfl rfl rfl fn10 rfl (ACalls.mono (wlen_ok _ hw (by simp [wz])) ?_)
        rw [hwl]
        rintro y σ' ⟨rfl, rfl⟩
        repeat (first | (with_reducible first | refine AW.seq ?_ | refine AW.block ?_ | refine AW.skip ?_ | refine AW.ret ?_ | refine AW.exit ?_ | refine AW.reg hT ?_) | ((with_reducible refine AW.cond_true ?_ ?_); · (simp (maxSteps := 3000000) (maxDischargeDepth := 12) only [seval,push_cast,appendX,dcbl,↓dnl,↓dnlc,↓dnlf,dcj1,dcj2]; done)) | ((with_reducible refine AW.cond_false ?_ ?_); · (simp (maxSteps := 3000000) (maxDischargeDepth := 12) only [seval,push_cast,appendX,dcbl,↓dnl,↓dnlc,↓dnlf,dcj1,dcj2]; done)) | simp (maxSteps := 3000000) (maxDischargeDepth := 12) only [seval,push_cast,appendX,Try.results3,dcbl,↓dnl,↓dnlc,↓dnlf,dcj1,dcj2])
      · have dcj1 : decide ((j : Int) < (b.length : Int)) = false := by simp; omega
        repeat (first | (with_reducible first | refine AW.seq ?_ | refine AW.block ?_ | refine AW.skip ?_ | refine AW.ret ?_ | refine AW.exit ?_ | refine AW.reg hT ?_) | ((with_reducible refine AW.cond_true ?_ ?_); · (simp (maxSteps := 3000000) (maxDischargeDepth := 12) only [seval,push_cast,appendX,dcbl,↓dnl,↓dnlc,↓dnlf,dcj1]; done)) | ((with_reducible refine AW.cond_false ?_ ?_); · (simp (maxSteps := 3000000) (maxDischargeDepth := 12) only [seval,push_cast,appendX,dcbl,↓dnl,↓dnlc,↓dnlf,dcj1]; done)) | simp (maxSteps := 3000000) (maxDischargeDepth := 12) only [seval,push_cast,appendX,Try.results3,dcbl,↓dnl,↓dnlc,↓dnlf,dcj1])
        refine AOpsL.call (first := []) (cap := []) hT rfl rfl rfl fn10 rfl (ACalls.mono (wlen_ok _ hw (by simp [wz])) ?_)
        rw [hwl]
        rintro y σ' ⟨rfl, rfl⟩
        repeat (first | (with_reducible first | refine AW.seq ?_ | refine AW.block ?_ | refine AW.skip ?_ | refine AW.ret ?_ | refine AW.exit ?_ | refine AW.reg hT ?_) | ((with_reducible refine AW.cond_true ?_ ?_); · (simp (maxSteps := 3000000) (maxDischargeDepth := 12) only [seval,push_cast,appendX,dcbl,↓dnl,↓dnlc,↓dnlf,dcj1]; done)) | ((with_reducible refine AW.cond_false ?_ ?_); · (simp (maxSteps := 3000000) (maxDischargeDepth := 12) only [seval,push_cast,appendX,dcbl,↓dnl,↓dnlc,↓dnlf,dcj1]; done)) | simp (maxSteps := 3000000) (maxDischargeDepth := 12) only [seval,push_cast,appendX,Try.results3,dcbl,↓dnl,↓dnlc,↓dnlf,dcj1])
    · have hc := Decidable.not_not.1 hc
      obtain ⟨hj1, hz0⟩ := hc
      have dcj1 : decide ((j : Int) < (b.length : Int)) = true := by simp; omega
      have dcj2 : decide (0 < (zs.length : Int)) = true := decide_eq_true (by omega)
      have dcj3 : ((j : Int) < (b.length : Int)) = True := by simp; omega
      have dcj0 : ((0 : Int) ≤ (j : Int)) = True := by simp
      have dcjz : ((zs.length : Int) = 0) = False := eq_false (by omega)
      have dcjw : IntKind.i64.wrap ((j : Int) + 1) = (j : Int) + 1 := wrap_i64 (by omega) (by omega)
      have hjcc : (((j + 1 : Nat)) : Int) = (j : Int) + 1 := by omega
      have dcbj := bytesD_get hj1
      have hbj := ho _ (List.getElem_mem hj1)
      generalize b[j] = bj at dcbj hbj
      have dcbw : IntKind.i64.wrap bj = bj := wrap_i64 (by omega) (by omega)
      obtain ⟨k, hk⟩ : ∃ k : Nat, bj.tmod (zs.length : Int) = (k : Int) := ⟨(bj % (zs.length : Int)).toNat, by
        rw [Int.tmod_eq_emod_of_nonneg hbj.1]
        have := Int.emod_nonneg bj (show (zs.length : Int) ≠ 0 by omega)
        omega⟩
      have hkl : k < zs.length := by
        have h1 := Int.emod_lt_of_pos bj (show (0 : Int) < (zs.length : Int) by omega)
        rw [Int.tmod_eq_emod_of_nonneg hbj.1] at hk
        omega
      have dck := hk
      repeat ((fail_if_success (with_reducible refine AW.at1 (id := 20) ?_)); (fail_if_success (with_reducible refine AW.at2 (id := 20) ?_)); first | (with_reducible first | refine AW.seq ?_ | refine AW.block ?_ | refine AW.skip ?_ | refine AW.ret ?_ | refine AW.exit ?_ | refine AW.reg hT ?_) | ((with_reducible refine AW.cond_true ?_ ?_); · (simp (maxSteps := 3000000) (maxDischargeDepth := 12) only [seval,push_cast,appendX,dcbl,↓dnl,↓dnlc,↓dnlf,dcj1,dcj2,dcj3,dcj0,dcjz,dcjw,dcbj,dcbw,dck]; done)) | ((with_reducible refine AW.cond_false ?_ ?_); · (simp (maxSteps := 3000000) (maxDischargeDepth := 12) only [seval,push_cast,appendX,dcbl,↓dnl,↓dnlc,↓dnlf,dcj1,dcj2,dcj3,dcj0,dcjz,dcjw,dcbj,dcbw,dck]; done)) | simp (maxSteps := 3000000) (maxDischargeDepth := 12) only [seval,push_cast,appendX,Try.results3,dcbl,↓dnl,↓dnlc,↓dnlf,dcj1,dcj2,dcj3,dcj0,dcjz,dcjw,dcbj,dcbw,dck])
      refine AW.seqK (fun ts σ' => ∃ fp d zs, k < zs.length ∧ zs.length ≤ 100 ∧ goodL zs ∧ Wire σ' fp p (wz zs) ∧ Hold σ' d 41 (zs.map meC) ∧ TellsL ts (.any :: .imm (bytesD b) :: .any :: .any :: .any :: .ptr p 0 0 1 :: d :: .any :: .any :: .any :: .sc (.int .i64 j) :: .sc (.int .i64 k) :: .any :: .any :: .any :: .any :: .any :: .any :: .any :: .any :: .any :: .any :: .any :: .any :: .any :: .any :: .any :: .any :: .any :: .any :: .any :: .any :: .any :: .any :: .any :: .any :: .any :: .any :: .any :: .any :: .any :: .any :: .any :: .any :: .any :: .any :: .any :: .any :: .any :: .any :: .any :: .any :: .any :: .any :: .any :: .any :: .any :: .any :: .any :: .any :: .any :: .any :: .any :: .any :: .any :: .any :: .any :: .any :: .any :: .any :: .any :: .any :: .any :: .any :: .any :: .any :: .any :: .any :: .any :: .any :: .any :: .any :: .any :: .any :: .any :: .any :: .any :: .any :: .any :: .any :: .any :: .any :: .any :: .any :: .any :: .any :: .any :: .any :: .any :: .any :: .any :: .any :: .any :: .any :: .any :: .any :: .any :: .any :: .any :: .any :: .any :: .any :: .any :: .any :: .any :: .any :: .any :: .any :: .any :: .any :: .any :: .any :: .any :: .any :: .any :: .any :: .any :: .any :: .any :: .any :: .any :: .any :: .any :: .any :: .any :: .any :: .any :: .any :: .any :: .any :: .any :: .any :: .any :: .any :: .any :: .any :: .any :: .any :: .any :: .any :: .any :: .any :: .any :: .any :: .any :: .any :: .any :: .any :: .any :: .any :: .any :: .any :: .any :: .any :: .any :: .any :: .any :: .any :: .any :: .any :: .any :: .any :: .any :: [])) ?_ ?_
      · by_cases h5 : ¬ bj.tmod 5 = 0
        · have dc5 : (bj.tmod 5 == 0) = false := by simpa using h5
          repeat (first | (with_reducible first | refine AW.seq ?_ | refine AW.block ?_ | refine AW.skip ?_ | refine AW.ret ?_ | refine AW.exit ?_ | refine AW.reg hT ?_) | ((with_reducible refine AW.cond_true ?_ ?_); · (simp (maxSteps := 3000000) (maxDischargeDepth := 12) only [seval,push_cast,appendX,dcbl,↓dnl,↓dnlc,↓dnlf,dcj1,dcj2,dcj3,dcj0,dcjz,dcjw,dcbj,dcbw,dck,dc5]; done)) | ((with_reducible refine AW.cond_false ?_ ?_); · (simp (maxSteps := 3000000) (maxDischargeDepth := 12) only [seval,push_cast,appendX,dcbl,↓dnl,↓dnlc,↓dnlf,dcj1,dcj2,dcj3,dcj0,dcjz,dcjw,dcbj,dcbw,dck,dc5]; done)) | simp (maxSteps := 3000000) (maxDischargeDepth := 12) only [seval,push_cast,appendX,Try.results3,dcbl,↓dnl,↓dnlc,↓dnlf,dcj1,dcj2,dcj3,dcj0,dcjz,dcjw,dcbj,dcbw,dck,dc5])
          exact ⟨fp, d, zs, hkl, hzl, hgood, hw, hh, by (simp only [push_cast, TellsL, tells_any, tells_refl])⟩
        · have h5 := Decidable.not_not.1 h5
          have dc5 : (bj.tmod 5 == 0) = true := by simpa using h5
          have hT2 := wtwice0_ok σ7 (k : Int) hw (wz_ok hgood hzl)
          rw [wz_twice hkl] at hT2
          by_cases h100 : 100 ≤ zs.length
          · rw [if_pos h100] at hT2
            have dc70 : ((7 : Int) == 0) = false := rfl
            repeat (first | (with_reducible first | refine AW.seq ?_ | refine AW.block ?_ | refine AW.skip ?_ | refine AW.ret ?_ | refine AW.exit ?_ | refine AW.reg hT ?_) | ((with_reducible refine AW.cond_true ?_ ?_); · (simp (maxSteps := 3000000) (maxDischargeDepth := 12) only [seval,push_cast,appendX,dcbl,↓dnl,↓dnlc,↓dnlf,dcj1,dcj2,dcj3,dcj0,dcjz,dcjw,dcbj,dcbw,dck,dc5,dc70]; done)) | ((with_reducible refine AW.cond_false ?_ ?_); · (simp (maxSteps := 3000000) (maxDischargeDepth := 12) only [seval,push_cast,appendX,dcbl,↓dnl,↓dnlc,↓dnlf,dcj1,dcj2,dcj3,dcj0,dcjz,dcjw,dcbj,dcbw,dck,dc5,dc70]; done)) | simp (maxSteps := 3000000) (maxDischargeDepth := 12) only [seval,push_cast,appendX,Try.results3,dcbl,↓dnl,↓dnlc,↓dnlf,dcj1,dcj2,dcj3,dcj0,dcjz,dcjw,dcbj,dcbw,dck,dc5,dc70])
            refine AOpsL.call (first := []) (cap := []) hT rfl rfl rfl fn6 rfl (ACalls.mono (hT2) ?_)
            rintro y σ8 ⟨rfl, fp8, hw8, hg8⟩
            repeat (first | (with_reducible first | refine AW.seq ?_ | refine AW.block ?_ | refine AW.skip ?_ | refine AW.ret ?_ | refine AW.exit ?_ | refine AW.reg hT ?_) | ((with_reducible refine AW.cond_true ?_ ?_); · (simp (maxSteps := 3000000) (maxDischargeDepth := 12) only [seval,push_cast,appendX,dcbl,↓dnl,↓dnlc,↓dnlf,dcj1,dcj2,dcj3,dcj0,dcjz,dcjw,dcbj,dcbw,dck,dc5,dc70]; done)) | ((with_reducible refine AW.cond_false ?_ ?_); · (simp (maxSteps := 3000000) (maxDischargeDepth := 12) only [seval,push_cast,appendX,dcbl,↓dnl,↓dnlc,↓dnlf,dcj1,dcj2,dcj3,dcj0,dcjz,dcjw,dcbj,dcbw,dck,dc5,dc70]; done)) | simp (maxSteps := 3000000) (maxDischargeDepth := 12) only [seval,push_cast,appendX,Try.results3,dcbl,↓dnl,↓dnlc,↓dnlf,dcj1,dcj2,dcj3,dcj0,dcjz,dcjw,dcbj,dcbw,dck,dc5,dc70])
            exact ⟨fp8, d, zs, hkl, hzl, hgood, hw8, hh.frame hg8.1 (hw.sep hh), by (simp only [push_cast, TellsL, tells_any, tells_refl])⟩
          · rw [if_neg h100] at hT2
            repeat (first | (with_reducible first | refine AW.seq ?_ | refine AW.block ?_ | refine AW.skip ?_ | refine AW.ret ?_ | refine AW.exit ?_ | refine AW.reg hT ?_) | ((with_reducible refine AW.cond_true ?_ ?_); · (simp (maxSteps := 3000000) (maxDischargeDepth := 12) only [seval,push_cast,appendX,dcbl,↓dnl,↓dnlc,↓dnlf,dcj1,dcj2,dcj3,dcj0,dcjz,dcjw,dcbj,dcbw,dck,dc5]; done)) | ((with_reducible refine AW.cond_false ?_ ?_); · (simp (maxSteps := 3000000) (maxDischargeDepth := 12) only [seval,push_cast,appendX,dcbl,↓dnl,↓dnlc,↓dnlf,dcj1,dcj2,dcj3,dcj0,dcjz,dcjw,dcbj,dcbw,dck,dc5]; done)) | simp (maxSteps := 3000000) (maxDischargeDepth := 12) only [seval,push_cast,appendX,Try.results3,dcbl,↓dnl,↓dnlc,↓dnlf,dcj1,dcj2,dcj3,dcj0,dcjz,dcjw,dcbj,dcbw,dck,dc5])
            refine AOpsL.call (first := []) (cap := []) hT rfl rfl rfl fn6 rfl (ACalls.mono (hT2) ?_)
            rintro y σ8 ⟨rfl, fp8, hw8, hg8⟩
            have hh8 := hh.frame hg8.1 (hw.sep hh)
            obtain ⟨t, full, rfl, gtt8, hfi⟩ := hh8.at_ (i := k) (by simpa using hkl)
            have dcfi : full[k]? = some (meC zs[k]) := by rw [hfi, List.getElem_map]
            have dcLn : (zs.map meC).length = zs.length := List.length_map ..
            have dck0 : ((0 : Int) ≤ (k : Int)) = True := by simp
            have dck1 : ((k : Int) < (zs.length : Int)) = True := by simp; omega
            have hgood2 : goodL (zs ++ [zs[k]]) := fun y hy => by
              rcases List.mem_append.1 hy with h | h
              · exact hgood y h
              · rw [List.mem_singleton.1 h]; exact hgood _ (List.getElem_mem hkl)
            obtain ⟨dA, σA, dnapp, hhA, hnewA, heA⟩ := hh8.app1y (ty := 22) (x := meC zs[k]) rfl rfl (by decide) rfl (by simp; omega)
            have hwA : Wire σA fp8 p (wz (zs ++ [zs[k]])) := (hw8.frame ((Ext.refl [] _).push _) (by simp)).frame heA (fun q hq hm2 => hw8.sep hh8 q hm2 hq)
            rw [dcLn] at dnapp
            simp only [meC, mgC] at dnapp
            repeat (first | (with_reducible first | refine AW.seq ?_ | refine AW.block ?_ | refine AW.skip ?_ | refine AW.ret ?_ | refine AW.exit ?_ | refine AW.reg hT ?_) | ((with_reducible refine AW.cond_true ?_ ?_); · (simp (maxSteps := 3000000) (maxDischargeDepth := 12) only [seval,push_cast,appendX,dcbl,↓dnl,↓dnlc,↓dnlf,dcj1,dcj2,dcj3,dcj0,dcjz,dcjw,dcbj,dcbw,dck,dc5,gtt8,Heap.lt gtt8,dcfi,dcLn,dck0,dck1,↓dnapp]; done)) | ((with_reducible refine AW.cond_false ?_ ?_); · (simp (maxSteps := 3000000) (maxDischargeDepth := 12) only [seval,push_cast,appendX,dcbl,↓dnl,↓dnlc,↓dnlf,dcj1,dcj2,dcj3,dcj0,dcjz,dcjw,dcbj,dcbw,dck,dc5,gtt8,Heap.lt gtt8,dcfi,dcLn,dck0,dck1,↓dnapp]; done)) | simp (maxSteps := 3000000) (maxDischargeDepth := 12) only [seval,push_cast,appendX,Try.results3,meC,mgC,dcbl,↓dnl,↓dnlc,↓dnlf,dcj1,dcj2,dcj3,dcj0,dcjz,dcjw,dcbj,dcbw,dck,dc5,gtt8,Heap.lt gtt8,dcfi,dcLn,dck0,dck1,↓dnapp])
            exact ⟨fp8, dA, zs ++ [zs[k]], by simp; omega, by simp; omega, hgood2, hwA, by simpa using hhA, by (simp only [push_cast, TellsL, tells_any, tells_refl])⟩
      · clear dnl dnlc dnlf hlen hw hh hgood hzl hkl hz0 dcj2 dcjz hk dck dcj1 dcj3 dcj0 dcbj dcbw
        rintro ts σ9 ⟨fp, d, zs, hkl, hzl, hgood, hw, hh, hts⟩
        refine AW.told hts ?_
        clear hts
        obtain ⟨z, hz⟩ : ∃ z, zs[k] = z := ⟨_, rfl⟩
        obtain ⟨hm, hwf⟩ := hgood zs[k] (List.getElem_mem hkl)
        rw [hz] at hm hwf
        have hTk := wtake0_ok σ9 (k : Int) trivial hw (wz_ok hgood hzl)
        rw [wz_take hkl, hz] at hTk
        have hsm := sealM_small hm
        have hD := fun σ' => mdec_ok σ' (sealM_octs hm) (by omega)
        simp only [decM_sealM hm] at hD
        repeat (first | (with_reducible first | refine AW.seq ?_ | refine AW.block ?_ | refine AW.skip ?_ | refine AW.ret ?_ | refine AW.exit ?_ | refine AW.reg hT ?_) | ((with_reducible refine AW.cond_true ?_ ?_); · (simp (maxSteps := 3000000) (maxDischargeDepth := 12) only [seval,push_cast,appendX,dcbl,dcjw]; done)) | ((with_reducible refine AW.cond_false ?_ ?_); · (simp (maxSteps := 3000000) (maxDischargeDepth := 12) only [seval,push_cast,appendX,dcbl,dcjw]; done)) | simp (maxSteps := 3000000) (maxDischargeDepth := 12) only [seval,push_cast,appendX,Try.results3,dcbl,dcjw])
        refine AOpsL.call (first := []) (cap := []) hT rfl rfl rfl fn7 rfl (ACalls.mono (hTk) ?_)
        rintro y σA ⟨rfl, fpA, hwA, hgA⟩
        have hhA := hh.frame hgA.1 (hw.sep hh)
        have hgood3 : goodL (zs.eraseIdx k) := fun y hy => hgood y (List.mem_of_mem_eraseIdx hy)
        have hl3 : (zs.eraseIdx k).length ≤ 100 := by have := List.length_eraseIdx_le zs k; omega
        clear hw hh hgA hTk
        repeat ((fail_if_success (with_reducible refine AW.at1 (id := 23) ?_)); (fail_if_success (with_reducible refine AW.at2 (id := 23) ?_)); first | (with_reducible first | refine AW.seq ?_ | refine AW.block ?_ | refine AW.skip ?_ | refine AW.ret ?_ | refine AW.exit ?_ | refine AW.reg hT ?_) | ((with_reducible refine AW.cond_true ?_ ?_); · (simp (maxSteps := 3000000) (maxDischargeDepth := 12) only [seval,push_cast,appendX,dcbl,dcjw]; done)) | ((with_reducible refine AW.cond_false ?_ ?_); · (simp (maxSteps := 3000000) (maxDischargeDepth := 12) only [seval,push_cast,appendX,dcbl,dcjw]; done)) | simp (maxSteps := 3000000) (maxDischargeDepth := 12) only [seval,push_cast,appendX,Try.results3,eN_eq,nt,dcbl,dcjw])
        refine AW.name (fun σB hσB => ?_)
        have xAB : Ext [] σA σB := by subst hσB; repeat (first | exact Ext.refl _ _ | assumption | refine Ext.push ?_ _ | ((refine Ext.set ?_ ?_ _); rotate_left; · (simp (maxSteps := 3000000) (maxDischargeDepth := 12) only [push_cast, appendX, Nat.reduceAdd, Nat.reduceEqDiff, Nat.reduceLT, Nat.reduceLeDiff, reduceIte, reduceCtorEq, dcbl, dcjw])) | ((refine Ext.then1 (by assumption) ?_ ?_); rotate_left; · (intro p hp _; first | assumption | exact List.mem_cons_of_mem _ hp | (cases hp; done) | (simp at hp; subst hp; simp))))
        have gtnB : σB.get σA.n = some ⟨[[.sc (.int .i64 0), .sc (.int .i64 1), .sc (.int .i64 0), .imm (bytesD (sealM z))]], 29, true⟩ := by subst hσB; simp (maxSteps := 3000000) (maxDischargeDepth := 12) only [push_cast, appendX, Nat.reduceAdd, Nat.reduceEqDiff, Nat.reduceLT, Nat.reduceLeDiff, reduceIte, reduceCtorEq, dcbl, dcjw]
        clear hσB
        have hwB := hwA.frame xAB (by simp)
        have hhB := hhA.frame xAB (by simp)
        clear hwA hhA xAB
        repeat (first | (with_reducible first | refine AW.seq ?_ | refine AW.block ?_ | refine AW.skip ?_ | refine AW.ret ?_ | refine AW.exit ?_ | refine AW.reg hT ?_) | ((with_reducible refine AW.cond_true ?_ ?_); · (simp (maxSteps := 3000000) (maxDischargeDepth := 12) only [seval,push_cast,appendX,dcbl,dcjw,gtnB,Heap.lt gtnB]; done)) | ((with_reducible refine AW.cond_false ?_ ?_); · (simp (maxSteps := 3000000) (maxDischargeDepth := 12) only [seval,push_cast,appendX,dcbl,dcjw,gtnB,Heap.lt gtnB]; done)) | simp (maxSteps := 3000000) (maxDischargeDepth := 12) only [seval,push_cast,appendX,Try.results3,dcbl,dcjw,gtnB,Heap.lt gtnB])
        refine AOpsL.call (first := []) (cap := []) hT rfl rfl rfl fn11 rfl (ACalls.mono (hD _) ?_)
        rintro y σC ⟨rfl, xtC⟩
        have hwC := hwB.frame xtC (by simp)
        have hhC := hhB.frame xtC (by simp)
        clear hwB hhB xtC hD gtnB
        obtain ⟨t, full, rfl, gC, hfi⟩ := hhC.at_ (i := k) (by simpa using hkl)
        have gttC := gC
        have dcfi : full[k]? = some (meC z) := by rw [hfi, List.getElem_map, hz]
        have dcLn : (zs.map meC).length = zs.length := List.length_map ..
        have dck0 : ((0 : Int) ≤ (k : Int)) = True := by simp
        have dck1 : ((k : Int) < (zs.length : Int)) = True := by simp; omega
        repeat ((fail_if_success (with_reducible refine AW.at1 (id := 24) ?_)); (fail_if_success (with_reducible refine AW.at2 (id := 24) ?_)); first | (with_reducible first | refine AW.seq ?_ | refine AW.block ?_ | refine AW.skip ?_ | refine AW.ret ?_ | refine AW.exit ?_ | refine AW.reg hT ?_) | ((with_reducible refine AW.cond_true ?_ ?_); · (simp (maxSteps := 3000000) (maxDischargeDepth := 12) only [seval,push_cast,appendX,dcbl,dcjw,gttC,Heap.lt gttC,dcfi,dcLn,dck0,dck1]; done)) | ((with_reducible refine AW.cond_false ?_ ?_); · (simp (maxSteps := 3000000) (maxDischargeDepth := 12) only [seval,push_cast,appendX,dcbl,dcjw,gttC,Heap.lt gttC,dcfi,dcLn,dck0,dck1]; done)) | simp (maxSteps := 3000000) (maxDischargeDepth := 12) only [seval,push_cast,appendX,Try.results3,meC,mgC,dcbl,dcjw,gttC,Heap.lt gttC,dcfi,dcLn,dck0,dck1])
        refine AW.name (fun σD hσD => ?_)
        have xCD : Ext [] σC σD := by subst hσD; repeat (first | exact Ext.refl _ _ | assumption | refine Ext.push ?_ _ | ((refine Ext.set ?_ ?_ _); rotate_left; · (simp (maxSteps := 3000000) (maxDischargeDepth := 12) only [push_cast, appendX, Nat.reduceAdd, Nat.reduceEqDiff, Nat.reduceLT, Nat.reduceLeDiff, reduceIte, reduceCtorEq, dcbl, dcjw, gttC, Heap.lt gttC, dcfi, dcLn, dck0, dck1])) | ((refine Ext.then1 (by assumption) ?_ ?_); rotate_left; · (intro p hp _; first | assumption | exact List.mem_cons_of_mem _ hp | (cases hp; done) | (simp at hp; subst hp; simp))))
        have gm : σD.get σC.n = some (MeO z) := by subst hσD; simp (maxSteps := 3000000) (maxDischargeDepth := 12) only [push_cast, appendX, Nat.reduceAdd, Nat.reduceEqDiff, Nat.reduceLT, Nat.reduceLeDiff, reduceIte, reduceCtorEq, MeO, MgO, mgC, dcbl, dcjw, gttC, Heap.lt gttC, dcfi, dcLn, dck0, dck1]
        clear hσD gttC
        have hwD := hwC.frame xCD (by simp)
        have hhD := hhC.frame xCD (by simp)
        have gD := xCD.get gC (by simp)
        clear hwC hhC xCD gC
        have gttD := gD
        have gtm := gm
        simp only [MeO, MgO, mgC] at gtm
        repeat (first | (with_reducible first | refine AW.seq ?_ | refine AW.block ?_ | refine AW.skip ?_ | refine AW.ret ?_ | refine AW.exit ?_ | refine AW.reg hT ?_) | ((with_reducible show AW _ (.region 24 _ _) _ _ _); (with_reducible refine AW.drawn (id := 24) hT [0,1,2,3,4,5,6,7,9,10,11,12,8,13,14,15] [[],[0],[0,1],[0,1,2],[0,1,2,3],[0,1,2,3,4],[0,1,2,3,4,5],[0,1,2,3,4,5,6],[0,1,2,3,4,5,6,7],[0,1,2,3,4,5,6],[0,1,2,3,4,5,6],[0,1,2,3,4,5,6,9,10],[0,1,2,3,4,5,6,9,10,11],[0,1,2,3,4,5,6,7,8,9,10,11,12],[0,1,2,3,4,5,6,7,8,9,10,11,12,13],[0,1,2,3,4,5,6,7,8,9,10,11,12,13,14]] mix (by kernel_rfl) ?_)) | ((with_reducible show DLeft _ _ _ _ (_ :: _) _ _ _ _); (with_reducible apply DLeft.step hT); (case hoi => ((simp only [List.getElem?_toArray,List.getElem?_cons_zero,List.getElem?_cons_succ]); with_reducible rfl)); (case hg => rfl); (case hk => rfl); (case hr => ((try simp (maxSteps := 3000000) (maxDischargeDepth := 12) only [seval,push_cast,appendX,Try.results3,dcbl,dcjw,dcfi,dcLn,dck0,dck1,gttD,Heap.lt gttD,gtm,Heap.lt gtm]); with_reducible rfl))) | ((with_reducible refine AW.cond_true ?_ ?_); · (simp (maxSteps := 3000000) (maxDischargeDepth := 12) only [seval,push_cast,appendX,dcbl,dcjw,dcfi,dcLn,dck0,dck1,gttD,Heap.lt gttD,gtm,Heap.lt gtm]; done)) | ((with_reducible refine AW.cond_false ?_ ?_); · (simp (maxSteps := 3000000) (maxDischargeDepth := 12) only [seval,push_cast,appendX,dcbl,dcjw,dcfi,dcLn,dck0,dck1,gttD,Heap.lt gttD,gtm,Heap.lt gtm]; done)) | simp (maxSteps := 3000000) (maxDischargeDepth := 12) only [seval,push_cast,appendX,Try.results3,dcbl,dcjw,dcfi,dcLn,dck0,dck1,gttD,Heap.lt gttD,gtm,Heap.lt gtm])
        ((apply DLeft.call (f := 13) (first := []) (cap := [])); (case hoi => ((simp only [List.getElem?_toArray, List.getElem?_cons_zero, List.getElem?_cons_succ]); with_reducible rfl)); (case hg => rfl); (case ho => rfl); (case hc => rfl); (case hf => exact fn13); (case has => rfl)); refine ACalls.mono (ours_ok _ z) ?_
        rintro y σE ⟨rfl, xtE⟩
        have gttE := xtE.get gD (by simp)
        have hwE := hwD.frame xtE (by simp)
        have hhE := hhD.frame xtE (by simp)
        clear hwD hhD gttD gtm gm
        repeat (first | (with_reducible first | refine AW.seq ?_ | refine AW.block ?_ | refine AW.skip ?_ | refine AW.ret ?_ | refine AW.exit ?_ | refine AW.reg hT ?_) | ((with_reducible show AW _ (.region 24 _ _) _ _ _); (with_reducible refine AW.drawn (id := 24) hT [0,1,2,3,4,5,6,7,9,10,11,12,8,13,14,15] [[],[0],[0,1],[0,1,2],[0,1,2,3],[0,1,2,3,4],[0,1,2,3,4,5],[0,1,2,3,4,5,6],[0,1,2,3,4,5,6,7],[0,1,2,3,4,5,6],[0,1,2,3,4,5,6],[0,1,2,3,4,5,6,9,10],[0,1,2,3,4,5,6,9,10,11],[0,1,2,3,4,5,6,7,8,9,10,11,12],[0,1,2,3,4,5,6,7,8,9,10,11,12,13],[0,1,2,3,4,5,6,7,8,9,10,11,12,13,14]] mix (by kernel_rfl) ?_)) | ((with_reducible show DLeft _ _ _ _ (_ :: _) _ _ _ _); (with_reducible apply DLeft.step hT); (case hoi => ((simp only [List.getElem?_toArray,List.getElem?_cons_zero,List.getElem?_cons_succ]); with_reducible rfl)); (case hg => rfl); (case hk => rfl); (case hr => ((try simp (maxSteps := 3000000) (maxDischargeDepth := 12) only [seval,push_cast,appendX,Try.results3,meC,mgC,dcbl,dcjw,dcfi,dcLn,dck0,dck1,xtE.2,xtE.ltT,xtE.leT,gttE,Heap.lt gttE]); with_reducible rfl))) | ((with_reducible refine AW.cond_true ?_ ?_); · (simp (maxSteps := 3000000) (maxDischargeDepth := 12) only [seval,push_cast,appendX,dcbl,dcjw,dcfi,dcLn,dck0,dck1,xtE.2,xtE.ltT,xtE.leT,gttE,Heap.lt gttE]; done)) | ((with_reducible refine AW.cond_false ?_ ?_); · (simp (maxSteps := 3000000) (maxDischargeDepth := 12) only [seval,push_cast,appendX,dcbl,dcjw,dcfi,dcLn,dck0,dck1,xtE.2,xtE.ltT,xtE.leT,gttE,Heap.lt gttE]; done)) | simp (maxSteps := 3000000) (maxDischargeDepth := 12) only [seval,push_cast,appendX,Try.results3,meC,mgC,dcbl,dcjw,dcfi,dcLn,dck0,dck1,xtE.2,xtE.ltT,xtE.leT,gttE,Heap.lt gttE])
        ((apply DLeft.call (f := 12) (first := []) (cap := [])); (case hoi => ((simp only [List.getElem?_toArray, List.getElem?_cons_zero, List.getElem?_cons_succ]); with_reducible rfl)); (case hg => rfl); (case ho => rfl); (case hc => rfl); (case hf => exact fn12); (case has => rfl)); refine ACalls.mono (rSame_ok _ (a := z) (b := z) (by have := hwf.2.2.2.2.2.2.2.2.2.2.2.2.2.2.2.2.2.2.1; omega) (by have := hwf.2.2.2.2.2.2.2.2.2.2.2.2.2.2.2.2.2.2.2; omega)) ?_
        rintro y σF ⟨xtF, tt, rfl, htt⟩
        have htt := htt.2 rfl
        subst htt
        have hwF := hwE.frame xtF (by simp)
        have hhF := hhE.frame xtF (by simp)
        have gttF := xtF.get gttE (by simp)
        clear hwE hhE gttE xtE xtF
        repeat ((fail_if_success (with_reducible refine AW.at1 (id := 26) ?_)); (fail_if_success (with_reducible refine AW.at2 (id := 26) ?_)); first | (with_reducible first | refine AW.seq ?_ | refine AW.block ?_ | refine AW.skip ?_ | refine AW.ret ?_ | refine AW.exit ?_ | refine AW.reg hT ?_) | ((with_reducible show AW _ (.region 24 _ _) _ _ _); (with_reducible refine AW.drawn (id := 24) hT [0,1,2,3,4,5,6,7,9,10,11,12,8,13,14,15] [[],[0],[0,1],[0,1,2],[0,1,2,3],[0,1,2,3,4],[0,1,2,3,4,5],[0,1,2,3,4,5,6],[0,1,2,3,4,5,6,7],[0,1,2,3,4,5,6],[0,1,2,3,4,5,6],[0,1,2,3,4,5,6,9,10],[0,1,2,3,4,5,6,9,10,11],[0,1,2,3,4,5,6,7,8,9,10,11,12],[0,1,2,3,4,5,6,7,8,9,10,11,12,13],[0,1,2,3,4,5,6,7,8,9,10,11,12,13,14]] mix (by kernel_rfl) ?_)) | ((with_reducible show DLeft _ _ _ _ (_ :: _) _ _ _ _); (with_reducible apply DLeft.step hT); (case hoi => ((simp only [List.getElem?_toArray,List.getElem?_cons_zero,List.getElem?_cons_succ]); with_reducible rfl)); (case hg => rfl); (case hk => rfl); (case hr => ((try simp (maxSteps := 3000000) (maxDischargeDepth := 12) only [seval,push_cast,appendX,Try.results3,dcbl,dcjw,dcfi,dcLn,dck0,dck1,gttF,Heap.lt gttF]); with_reducible rfl))) | ((with_reducible refine AW.cond_true ?_ ?_); · (simp (maxSteps := 3000000) (maxDischargeDepth := 12) only [seval,push_cast,appendX,dcbl,dcjw,dcfi,dcLn,dck0,dck1,gttF,Heap.lt gttF]; done)) | ((with_reducible refine AW.cond_false ?_ ?_); · (simp (maxSteps := 3000000) (maxDischargeDepth := 12) only [seval,push_cast,appendX,dcbl,dcjw,dcfi,dcLn,dck0,dck1,gttF,Heap.lt gttF]; done)) | simp (maxSteps := 3000000) (maxDischargeDepth := 12) only [seval,push_cast,appendX,Try.results3,dcbl,dcjw,dcfi,dcLn,dck0,dck1,gttF,Heap.lt gttF])
        obtain ⟨hle, hft⟩ : zs.length ≤ full.length ∧ full.take zs.length = zs.map meC := by
          rcases hhF with ⟨h1, _⟩ | ⟨t2, full2, h1, h2, h3, h4⟩
          · cases h1
          · have e1 := (DV.sl.inj h1).1
            subst e1
            rw [gttF] at h2
            cases h2
            rw [dcLn] at h3 h4
            exact ⟨h3, h4⟩
        obtain ⟨r, hr⟩ : ∃ r, zs.length = k + 1 + r := ⟨zs.length - (k + 1), by omega⟩
        have hft1 : full.take k = (zs.take k).map meC := by
          rw [List.map_take, ← hft, List.take_take, Nat.min_eq_left (by omega)]
        have hft2 : (full.drop (k + 1)).take r = (zs.drop (k + 1)).map meC := by
          rw [List.map_drop, ← hft, hr, List.drop_take, show k + 1 + r - (k + 1) = r by omega]
        have hszM : ∀ (l : List Me), ((l.map meC).all fun el => el.length == 20) = true := fun l => by
          rw [List.all_eq_true]; intro el hel; obtain ⟨y, _, rfl⟩ := List.mem_map.1 hel; rfl
        have hsl1 : sliceD σF (.sl t 0 k full.length) = some ((zs.take k).map meC) := by
          simp only [sliceD, getO, gttF]
          rw [← hft1]
          simp
          omega
        obtain ⟨dB, σG, dnapp1, hhG, xtG, hnewG⟩ := (Hold.nil σF 41).append0 (T := T) (ty := 22) (x := .sl t 0 k full.length) (xs := (zs.take k).map meC) rfl rfl (by decide) hsl1 (hszM _) (by simp; omega)
        rw [List.nil_append] at hhG
        have hwG := hwF.frame xtG (by simp [tOf])
        have gttG := xtG.get gttF (by simp [tOf])
        have hsl2 : sliceD σG (.sl t (k + 1) r full.length) = some ((zs.drop (k + 1)).map meC) := by
          simp only [sliceD, getO, gttG]
          rw [← hft2]
          simp
          omega
        obtain ⟨dE, σH, dnapp2, hhH, xtH, hnewH⟩ := hhG.append0 (T := T) (ty := 22) (x := .sl t (k + 1) r full.length) (xs := (zs.drop (k + 1)).map meC) rfl rfl (by decide) hsl2 (hszM _) (by simp; omega)
        have hwH := hwG.frame xtH (fun q hq hm2 => hwG.sep hhG q hm2 hq)
        have hers : (zs.take k).map meC ++ (zs.drop (k + 1)).map meC = (zs.eraseIdx k).map meC := by
          rw [← List.map_append, List.eraseIdx_eq_take_drop_succ]
        rw [hers] at hhH
        have dnclB := hhG.cells
        have dnlfB := hhG.leaf
        have dnclE := hhH.cells
        have dnlfE := hhH.leaf
        have dcT1 : ((k : Int) + 1).toNat = k + 1 := by omega
        have dcT2 : ((zs.length : Int) - ((k : Int) + 1)).toNat = r := by omega
        have dcT3 : IntKind.i64.wrap ((k : Int) + 1) = (k : Int) + 1 := wrap_i64 (by omega) (by omega)
        have dcT4 : ((k : Int) ≤ (zs.length : Int)) = True := eq_true (by omega)
        have dcT5 : ((k : Int) + 1 ≤ (zs.length : Int)) = True := eq_true (by omega)
        have dcT6 : ((0 : Int) ≤ (k : Int) + 1) = True := eq_true (by omega)
        clear xtG xtH hhF hwF hwG hhG hfi dcfi
        repeat (first | (with_reducible first | refine AW.seq ?_ | refine AW.block ?_ | refine AW.skip ?_ | refine AW.ret ?_ | refine AW.exit ?_ | refine AW.reg hT ?_) | ((with_reducible refine AW.cond_true ?_ ?_); · (simp (maxSteps := 3000000) (maxDischargeDepth := 12) only [seval,push_cast,appendX,dcbl,dcjw,dcLn,dck0,dck1,gttF,Heap.lt gttF,↓dnapp1,gttG,Heap.lt gttG,↓dnapp2,↓dnclB,↓dnlfB,↓dnclE,↓dnlfE,dcT1,dcT2,dcT3,dcT4,dcT5,dcT6]; done)) | ((with_reducible refine AW.cond_false ?_ ?_); · (simp (maxSteps := 3000000) (maxDischargeDepth := 12) only [seval,push_cast,appendX,dcbl,dcjw,dcLn,dck0,dck1,gttF,Heap.lt gttF,↓dnapp1,gttG,Heap.lt gttG,↓dnapp2,↓dnclB,↓dnlfB,↓dnclE,↓dnlfE,dcT1,dcT2,dcT3,dcT4,dcT5,dcT6]; done)) | simp (maxSteps := 3000000) (maxDischargeDepth := 12) only [seval,push_cast,appendX,Try.results3,dcbl,dcjw,dcLn,dck0,dck1,gttF,Heap.lt gttF,↓dnapp1,gttG,Heap.lt gttG,↓dnapp2,↓dnclB,↓dnlfB,↓dnclE,↓dnlfE,dcT1,dcT2,dcT3,dcT4,dcT5,dcT6])
        exact ⟨b.length + 1 - (j + 1), by omega, j + 1, fpA, dE, zs.eraseIdx k, rfl, hj1, hl3, hgood3, hwH, hhH, by (simp only [push_cast, TellsL, tells_any, tells_refl, hjcc])⟩
theorem letter_ok (l : List Ms) (b : List Int) (h : l.length ≤ maxLen ∧ ∀ y ∈ l, wM y) (hb : b.length ≤ maxLen ∧ ∀ y ∈ b, (Lit.int .u8 y).wf = true) (hy : b.length * 1 ≤ 140737488351232) : ACalls Try.prog 3 [.imm (l.map eM), .imm (b.map (fun n : Int => [DV.sc (.int .u8 n)]))] ⟨[]⟩ (fun y _ => y = .sc (.bool true)) := by
  have e : l.map eM = (l.map mS).map meC := by rw [List.map_map]; rfl
  rw [e]
  refine letterZ _ (fun z hz hf => ?_) (octs_wf hb.2) (by omega)
  obtain ⟨x, hx, rfl⟩ := List.mem_map.1 hz
  exact wM_wf (h.2 x hx) hf.1 hf.2
end Go.Proofs.Ytdkhlhfdjggbpaa.Cm
