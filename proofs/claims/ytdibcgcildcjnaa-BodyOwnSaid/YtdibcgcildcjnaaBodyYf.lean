/- Package body: what is told of an item that may be. The law BodyOwn. -/
import Derived.Test.YtdibcgcildcjnaaBodyYd
namespace Go.Proofs.Ytdibcgcildcjnaa.Cm
open Go.RowKit
set_option linter.unusedVariables false
set_option linter.unusedSimpArgs false
set_option maxRecDepth 20000
set_option maxHeartbeats 8000000
abbrev Ob := S38
abbrev eO := e38
abbrev wO := w38
theorem eO_eq (o : Ob) : eO o = oC o.f0 o.f1 o.f2 := rfl
theorem wO_octs {o : Ob} (h : wO o) : Octs o.f2 := fun d hd => by
  have := wf_u8 (h.2.2.2 d hd)
  omega
theorem wO_cls {o : Ob} (h : wO o) : -9223372036854775808 ≤ o.f0 ∧ o.f0 ≤ 9223372036854775807 := wf_i64 h.1
theorem unpackE_ok (σ : Heap) {c k e : Int} {b : List Int} {w : Fs} {M : List Int} (ho : Octs b) (hb : b.length ≤ 1000000) (hc : -9223372036854775808 ≤ c ∧ c ≤ 9223372036854775807) (h : unpA c k b = (w, M, e)) :
    ACalls Try.prog 14 [.agg (oC c k b)] σ (fun y σ' => y = .tup [.agg (itC w (.imm (M.map eI))), .sc (.int .i64 e)] ∧ Ext [] σ σ') := by
  have := unpackI_ok σ (k := k) (d := .imm (bytesD b)) rfl rfl (Src.imm σ (bytesD b)) ho hb hc
  rw [h] at this; exact this
/-- What Unpack answers. -/
theorem unp_cases (c k : Int) {b : List Int} (ho : Octs b) : ∃ w M e, unpA c k b = (w, M, e) ∧ ((e = 0 ∧ mayI w M ∧ w.cls = c ∧ kindI c = k ∧ bodyI w M = b) ∨ (e = 5 ∧ w = zF 0 ∧ M = [])) := by
  by_cases h : (unpA c k b).2.2 = 0
  · exact ⟨_, _, _, rfl, .inl ⟨h, unp_back ho h⟩⟩
  · exact ⟨_, _, _, unp_no h, .inr ⟨rfl, rfl, rfl⟩⟩
theorem may_wf {x : Fs} {L : List Int} (hc : -9223372036854775808 ≤ x.cls ∧ x.cls ≤ 9223372036854775807) (h : mayI x L) : x.Wf := by
  rcases h with ⟨h1, h2, h3, h4⟩ | ⟨h1, h2, h3, h4, h5⟩
  · rw [h2]; exact zF_wf _ hc
  · have key : ∀ j, isF j → (0 ≤ x.get j ∧ (j = 4 → x.get j ≤ 18446744073709551615) ∧ (j ≠ 4 → x.get j < 4294967296)) := fun j hj => by
      by_cases hm : j ∈ flds (stepsOf x.cls)
      · simp only [flds, List.mem_flatMap] at hm
        obtain ⟨a, ha, hja⟩ := hm
        have hs := (steps_sound h1).2 a ha
        have hk := h4 a ha
        cases a with
        | fix n u => simp [Stp.fld] at hja
        | node i =>
          simp [Stp.fld] at hja; subst hja
          have := hk.1; have := hk.2
          exact ⟨by omega, by omega, by omega⟩
        | int n i top =>
          simp [Stp.fld] at hja; subst hja
          have h7 := hs.2.2.1
          have h8 : (256 : Int) ^ n ≤ 256 ^ 4 := by
            have : (256 : Nat) ^ n ≤ 256 ^ 4 := Nat.pow_le_pow_right (by omega) hs.2.1
            exact_mod_cast this
          have h9 : (256 : Int) ^ 4 = 4294967296 := by decide
          have := hk.1; have := hk.2
          exact ⟨by omega, by omega, by omega⟩
        | raw n i =>
          simp [Stp.fld] at hja; subst hja
          have e4 : (256 : Int) ^ 4 = 4294967296 := by decide
          have e8 : (256 : Int) ^ 8 = 18446744073709551616 := by decide
          have h8 : n ≤ 8 := hs.2.1
          have hp : (256 : Int) ^ n ≤ 256 ^ 8 := by
            have : (256 : Nat) ^ n ≤ 256 ^ 8 := Nat.pow_le_pow_right (by omega) h8
            exact_mod_cast this
          have hk1 := hk.1
          have hk2 := hk.2
          refine ⟨hk1, fun _ => by omega, fun hj4 => ?_⟩
          have hn4 : n = 4 := by
            rcases h1 with hc | hc | hc | hc | hc | hc | hc | hc | hc | hc | hc | hc | hc <;> rw [hc] at ha <;> simp [stepsOf] at ha <;> omega
          rw [hn4, e4] at hk2
          exact hk2
      · rw [h5 j hj hm]; exact ⟨by omega, by omega, by omega⟩
    have k1 := key 1 (by simp [isF])
    have k2 := key 2 (by simp [isF])
    have k3 := key 3 (by simp [isF])
    have k4 := (key 4 (by simp [isF])).1
    have k4' := (key 4 (by simp [isF])).2.1 rfl
    have k6 := key 6 (by simp [isF])
    have k7 := key 7 (by simp [isF])
    have k8 := key 8 (by simp [isF])
    have k9 := key 9 (by simp [isF])
    have k10 := key 10 (by simp [isF])
    have k11 := key 11 (by simp [isF])
    simp only [Fs.get] at k1 k2 k3 k4 k4' k6 k7 k8 k9 k10 k11
    exact ⟨hc, by omega, by omega, by omega, by omega, by omega, by omega, by omega, by omega, by omega, by omega⟩
theorem may_len {x : Fs} {L : List Int} (h : mayI x L) : L.length ≤ 16 := by
  rcases h with ⟨_, _, h3, _⟩ | ⟨_, h2, _⟩
  · exact h3
  · rw [h2]; simp
theorem body_len4 {x : Fs} {L : List Int} (h : mayI x L) : (bodyI x L).length % 4 = 0 := by
  rcases h with ⟨h1, h2, h3, h4⟩ | ⟨h1, h2, h3, h4, h5⟩
  · simp only [bodyI, h1, if_true]; rw [hops_len]; omega
  · have hn := known_notL h1
    simp only [bodyI, hn, if_false]
    rcases h1 with h | h | h | h | h | h | h | h | h | h | h | h | h <;> (rw [h]; simp [stepsOf, btsL, bts, digits_length])
theorem packF_ok (σ : Heap) {x : Fs} {L : List Int} (hw : x.Wf) (hL : L.length ≤ 1000000) (h : ¬ mayI x L) : ACalls Try.prog 9 [.agg (itC x (.imm (L.map eI)))] σ (fun y σ' => y = .tup [.agg (oC 0 0 []), .sc (.int .i64 2)] ∧ Ext [] σ σ') := by
  have := packI_ok σ hw hL
  rw [pack_no h] at this; exact this
/-- An element of a row is written over. -/
theorem Hold.store {σ : Heap} {d : DV} {e : TypeId} {els : List (List DV)} (h : Hold σ d e els) {i : Nat} (hi : i < els.length) {x : DV} (hx : els[i] = [x]) (y : DV) : ∃ t full, d = .sl t 0 els.length full.length ∧ tOf d = [t] ∧ σ.get t = some ⟨full, e, true⟩ ∧ CellAt ⟨full, e, some true⟩ i 0 full.length x ∧ Hold (σ.set t ((⟨full, e, some true⟩ : AObj).put i 0 y)) d e (els.set i [y]) := by
  rcases h with ⟨rfl, rfl⟩ | ⟨t, full, rfl, hg, hle, htk⟩
  · simp at hi
  · have hfi : full[i]? = some [x] := by
      have : (full.take els.length)[i]? = some [x] := by rw [htk, List.getElem?_eq_getElem hi, hx]
      rw [List.getElem?_take] at this
      simpa [hi] using this
    have hp : (⟨full, e, some true⟩ : AObj).put i 0 y = ⟨full.set i [y], e, true⟩ := by
      simp only [AObj.put, List.getD, hfi, Option.getD_some, List.set_cons_zero]
    refine ⟨t, full, rfl, rfl, hg, ⟨rfl, rfl, [x], hfi, rfl⟩, .inr ⟨t, full.set i [y], by simp, by rw [hp]; exact Heap.get_set (Heap.lt hg), by simpa using hle, ?_⟩⟩
    rw [List.length_set, List.take_set, htk]
def ownA (X : Fs) (L : List Int) (p r s : Nat) (dl db : DV) (els : List Int) (bs : List Int) (σ : Heap) : Prop := σ.get p = some (RtO X (.imm (L.map eI))) ∧ σ.get r = some ⟨[[.sc (.int .i64 X.cls), .sc (.int .i64 (kindI X.cls)), db]], 32, true⟩ ∧ σ.get s = some (ItO X dl) ∧ Hold σ dl 3 (els.map eI) ∧ Hold σ db 5 (bytesD bs)
def owI1 (X : Fs) (L : List Int) (p r s : Nat) (dl db : DV) (n : Nat) (bs : List Int) (m : Nat) (ts : List DV) (σ : Heap) : Prop := ∃ i els, m = n + 1 - i ∧ i ≤ n ∧ els.length = n ∧ ownA X L p r s dl db els bs σ ∧ TellsL ts (.any :: .ptr p 0 0 1 :: .any :: .ptr r 0 0 1 :: .any :: .ptr s 0 0 1 :: .sc (.int .i64 0) :: .any :: .any :: .any :: .any :: .any :: .any :: .any :: .any :: .any :: .any :: .any :: .any :: .any :: .any :: .any :: .any :: .any :: .any :: .any :: .any :: .any :: .any :: .any :: .any :: .any :: .any :: .any :: .any :: .any :: .any :: .any :: .any :: .any :: .any :: .any :: .any :: .any :: .any :: .any :: .any :: .any :: .any :: .any :: .any :: .any :: .any :: .sc (.int .i64 n) :: .sc (.int .i64 i) :: .any :: .any :: .any :: .any :: .any :: .any :: .any :: .any :: .any :: .any :: .any :: .any :: .any :: .any :: .any :: .any :: .any :: .any :: .any :: .any :: .any :: .any :: .any :: .any :: .any :: .any :: .any :: .any :: .any :: .any :: .any :: .any :: .any :: .any :: .any :: .any :: .any :: .any :: .any :: .any :: .any :: .any :: .any :: .any :: .any :: [])
def owI2 (X : Fs) (L : List Int) (p r s : Nat) (dl db : DV) (n : Nat) (els : List Int) (m : Nat) (ts : List DV) (σ : Heap) : Prop := ∃ i bs, m = n + 1 - i ∧ i ≤ n ∧ bs.length = n ∧ ownA X L p r s dl db els bs σ ∧ TellsL ts (.any :: .ptr p 0 0 1 :: .any :: .ptr r 0 0 1 :: .any :: .any :: .sc (.int .i64 0) :: .any :: .any :: .any :: .any :: .any :: .any :: .any :: .any :: .any :: .any :: .any :: .any :: .any :: .any :: .any :: .any :: .any :: .any :: .any :: .any :: .any :: .any :: .any :: .any :: .any :: .any :: .any :: .any :: .any :: .any :: .any :: .any :: .any :: .any :: .any :: .any :: .any :: .any :: .any :: .any :: .any :: .any :: .any :: .any :: .any :: .any :: .any :: .any :: .any :: .any :: .any :: .any :: .any :: .any :: .any :: .any :: .any :: .sc (.int .i64 n) :: .sc (.int .i64 i) :: .any :: .any :: .any :: .any :: .any :: .any :: .any :: .any :: .any :: .any :: .any :: .any :: .any :: .any :: .any :: .any :: .any :: .any :: .any :: .any :: .any :: .any :: .any :: .any :: .any :: .any :: .any :: .any :: .any :: .any :: .any :: .any :: .any :: .any :: [])
theorem ownA.store1 {X : Fs} {L : List Int} {p r s : Nat} {dl db : DV} {els bs : List Int} {σ : Heap} (h : ownA X L p r s dl db els bs σ) {i : Nat} (hi : i < els.length) : ∃ t full, dl = .sl t 0 (els.map eI).length full.length ∧ σ.get t = some ⟨full, 3, true⟩ ∧ CellAt ⟨full, 3, some true⟩ i 0 full.length (.sc (.int .i64 els[i])) ∧ ownA X L p r s dl db (els.set i 99) bs (σ.set t ((⟨full, 3, some true⟩ : AObj).put i 0 (.sc (.int .i64 99)))) := by
  obtain ⟨h1, h2, h3, h4, h5⟩ := h
  obtain ⟨t, full, k1, kt, k2, k3, k4⟩ := h4.store (i := i) (by simpa using hi) (x := .sc (.int .i64 els[i])) (by simp [eI]) (.sc (.int .i64 99))
  have n1 : t ≠ p := fun e => by have := h4.ne h1 (by simp [RtO]); rw [kt] at this; simp [e] at this
  have n2 : t ≠ r := fun e => by have := h4.ne h2 (by simp); rw [kt] at this; simp [e] at this
  have n3 : t ≠ s := fun e => by have := h4.ne h3 (by simp [ItO]); rw [kt] at this; simp [e] at this
  refine ⟨t, full, k1, k2, k3, by rw [Heap.get_set_ne n1]; exact h1, by rw [Heap.get_set_ne n2]; exact h2, by rw [Heap.get_set_ne n3]; exact h3, ?_, h5.frame (X := [t]) ((Ext.refl _ _).set (.inr (by simp)) _) (fun q hq hm => ?_)⟩
  · have e : (els.set i 99).map eI = (els.map eI).set i [.sc (.int .i64 99)] := by rw [List.map_set]; rfl
    rw [e]; exact k4
  · simp at hm; subst hm; exact h5.ne k2 (by simp) hq
theorem ownA.store2 {X : Fs} {L : List Int} {p r s : Nat} {dl db : DV} {els bs : List Int} {σ : Heap} (h : ownA X L p r s dl db els bs σ) {i : Nat} (hi : i < bs.length) : ∃ t full, db = .sl t 0 (bytesD bs).length full.length ∧ σ.get t = some ⟨full, 5, true⟩ ∧ CellAt ⟨full, 5, some true⟩ i 0 full.length (.sc (.int .u8 bs[i])) ∧ ownA X L p r s dl db els (bs.set i 255) (σ.set t ((⟨full, 5, some true⟩ : AObj).put i 0 (.sc (.int .u8 255)))) := by
  obtain ⟨h1, h2, h3, h4, h5⟩ := h
  obtain ⟨t, full, k1, kt, k2, k3, k4⟩ := h5.store (i := i) (by simpa [bytesD] using hi) (x := .sc (.int .u8 bs[i])) (by simp [bytesD]) (.sc (.int .u8 255))
  have n1 : t ≠ p := fun e => by have := h5.ne h1 (by simp [RtO]); rw [kt] at this; simp [e] at this
  have n2 : t ≠ r := fun e => by have := h5.ne h2 (by simp); rw [kt] at this; simp [e] at this
  have n3 : t ≠ s := fun e => by have := h5.ne h3 (by simp [ItO]); rw [kt] at this; simp [e] at this
  refine ⟨t, full, k1, k2, k3, by rw [Heap.get_set_ne n1]; exact h1, by rw [Heap.get_set_ne n2]; exact h2, by rw [Heap.get_set_ne n3]; exact h3, h4.frame (X := [t]) ((Ext.refl _ _).set (.inr (by simp)) _) (fun q hq hm => ?_), ?_⟩
  · simp at hm; subst hm; exact h4.ne k2 (by simp) hq
  · have e : bytesD (bs.set i 255) = (bytesD bs).set i [.sc (.int .u8 255)] := by unfold bytesD; rw [List.map_set]
    rw [e]; exact k4
theorem itC_0 (x : Fs) (d : DV) : (itC x d)[0]? = some (.sc (.int .i64 x.cls)) := rfl
theorem own_ok (x : It) (hx : wR x) : ACalls Try.prog 7 [.agg (eR x)] ⟨[]⟩ (fun r _ => r = .sc (.bool true)) := by
  have hwx := wR_wf hx
  generalize hσ : (⟨[]⟩ : Heap) = σ
  simp only [eR_eq]
  generalize fsR x = X at hwx ⊢
  generalize x.f5 = L
  clear hx x
  have del : (L.map eI).length = L.length := List.length_map ..
  refine ACalls.code hT Try.func7 rfl ?_
  simp only [Try.ntmps7, List.length_cons, List.length_nil, Nat.reduceSub, Nat.reduceAdd, List.replicate, List.cons_append, List.nil_append]
  repeat ((fail_if_success (with_reducible refine AW.at1 (id := 1) ?_)); (fail_if_success (with_reducible refine AW.at2 (id := 1) ?_)); first | (with_reducible refine AW.seq ?_) | (with_reducible refine AW.block ?_) | (with_reducible refine AW.skip ?_) | (with_reducible refine AW.ret ?_) | (with_reducible refine AW.exit ?_) | (with_reducible refine AW.reg hT ?_) | ((with_reducible refine AW.cond_true ?_ ?_); · rfl) | ((with_reducible refine AW.cond_false ?_ ?_); · rfl) | simp (maxSteps := 3000000) (maxDischargeDepth := 12) only [push_cast,appendX,reduceIte,reduceCtorEq,Nat.reduceSub,Nat.reduceAdd,Nat.reduceMul,Nat.reduceLT,Nat.reduceLeDiff,Nat.reduceEqDiff,Nat.reduceBEq,Int.reduceToNat,Int.reduceLT,Int.reduceLE,Int.reduceEq,Int.reduceNeg,Try.results7,itC_len,itC_take,itC_d5,itC_leaf])
  refine AW.name (fun σ1 hσ1 => ?_)
  have gtx : σ1.get σ.n = some (RtO X (.imm (L.map eI))) := by subst hσ1; simp (maxSteps := 3000000) (maxDischargeDepth := 12) only [push_cast, appendX, Nat.reduceAdd, Nat.reduceEqDiff, Nat.reduceLT, Nat.reduceLeDiff, reduceIte, reduceCtorEq, RtO]
  clear hσ1 hσ
  generalize σ.n = p at gtx ⊢
  have gtx := gtx
  repeat (first | (with_reducible refine AW.seq ?_) | (with_reducible refine AW.block ?_) | (with_reducible refine AW.skip ?_) | (with_reducible refine AW.ret ?_) | (with_reducible refine AW.exit ?_) | (with_reducible refine AW.reg hT ?_) | ((with_reducible refine AW.cond_true ?_ ?_); · rfl) | ((with_reducible refine AW.cond_false ?_ ?_); · rfl) | simp (maxSteps := 3000000) (maxDischargeDepth := 12) only [push_cast,appendX,reduceIte,reduceCtorEq,Nat.reduceSub,Nat.reduceAdd,Nat.reduceMul,Nat.reduceLT,Nat.reduceLeDiff,Nat.reduceEqDiff,Nat.reduceBEq,Int.reduceToNat,Int.reduceLT,Int.reduceLE,Int.reduceEq,Int.reduceNeg,Try.results7,RtO,gtx,Heap.lt gtx])
  refine AOpsL.call (first := []) (cap := []) hT rfl rfl rfl fn8 rfl (ACalls.mono (alive_ok _) ?_)
  rintro r σ2 ⟨rfl, xt2⟩
  have gtx2 := xt2.get gtx (by simp)
  clear xt2 gtx
  by_cases h1 : 6000 < L.length
  · have dc1 : decide (6000 < (L.length : Int)) = true := decide_eq_true (by omega)
    repeat (first | (with_reducible refine AW.seq ?_) | (with_reducible refine AW.block ?_) | (with_reducible refine AW.skip ?_) | (with_reducible refine AW.ret ?_) | (with_reducible refine AW.exit ?_) | (with_reducible refine AW.reg hT ?_) | ((with_reducible refine AW.cond_true ?_ ?_); · rfl) | ((with_reducible refine AW.cond_false ?_ ?_); · rfl) | simp (maxSteps := 3000000) (maxDischargeDepth := 12) only [push_cast,appendX,reduceIte,reduceCtorEq,Nat.reduceSub,Nat.reduceAdd,Nat.reduceMul,Nat.reduceLT,Nat.reduceLeDiff,Nat.reduceEqDiff,Nat.reduceBEq,Int.reduceToNat,Int.reduceLT,Int.reduceLE,Int.reduceEq,Int.reduceNeg,Try.results7,RtO,itC_len,itC_d5,del,gtx2,Heap.lt gtx2,dc1])
  have dc1 : decide (6000 < (L.length : Int)) = false := decide_eq_false (by omega)
  repeat (first | (with_reducible refine AW.seq ?_) | (with_reducible refine AW.block ?_) | (with_reducible refine AW.skip ?_) | (with_reducible refine AW.ret ?_) | (with_reducible refine AW.exit ?_) | (with_reducible refine AW.reg hT ?_) | ((with_reducible refine AW.cond_true ?_ ?_); · rfl) | ((with_reducible refine AW.cond_false ?_ ?_); · rfl) | simp (maxSteps := 3000000) (maxDischargeDepth := 12) only [push_cast,appendX,reduceIte,reduceCtorEq,Nat.reduceSub,Nat.reduceAdd,Nat.reduceMul,Nat.reduceLT,Nat.reduceLeDiff,Nat.reduceEqDiff,Nat.reduceBEq,Int.reduceToNat,Int.reduceLT,Int.reduceLE,Int.reduceEq,Int.reduceNeg,Try.results7,RtO,itC_len,itC_take,itC_d5,itC_leaf,del,gtx2,Heap.lt gtx2,dc1])
  refine AOpsL.call (first := []) (cap := []) hT rfl rfl rfl fn10 rfl (ACalls.mono (ltheirs_ok _ X rfl rfl) ?_)
  rintro r σ3 ⟨rfl, xt3⟩
  repeat (first | (with_reducible refine AW.seq ?_) | (with_reducible refine AW.block ?_) | (with_reducible refine AW.skip ?_) | (with_reducible refine AW.ret ?_) | (with_reducible refine AW.exit ?_) | (with_reducible refine AW.reg hT ?_) | ((with_reducible refine AW.cond_true ?_ ?_); · rfl) | ((with_reducible refine AW.cond_false ?_ ?_); · rfl) | simp (maxSteps := 3000000) (maxDischargeDepth := 12) only [push_cast,appendX,reduceIte,reduceCtorEq,Nat.reduceSub,Nat.reduceAdd,Nat.reduceMul,Nat.reduceLT,Nat.reduceLeDiff,Nat.reduceEqDiff,Nat.reduceBEq,Int.reduceToNat,Int.reduceLT,Int.reduceLE,Int.reduceEq,Int.reduceNeg,Try.results7,gtx2,Heap.lt gtx2,dc1,xt3.2,xt3.ltT,xt3.leT])
  by_cases hm : mayI X L
  · have hpk := pack_may hm
    have hpo := pack_ok σ3 hwx (L := L) (by omega)
    rw [hpk] at hpo
    refine AOpsL.call (first := []) (cap := []) hT rfl rfl rfl fn9 rfl (ACalls.mono (hpo) ?_)
    rintro r σ4 ⟨xt4, db, rfl, hh4, hd4⟩
    have gtx4 := xt4.get (xt3.get gtx2 (by simp)) (by simp)
    clear hpo xt3 xt4 gtx2 hd4
    have dncl4 := hh4.cells
    have dnlf4 := hh4.leaf
    have hlt4 := hh4.lt
    repeat ((fail_if_success (with_reducible refine AW.at1 (id := 6) ?_)); (fail_if_success (with_reducible refine AW.at2 (id := 6) ?_)); first | (with_reducible refine AW.seq ?_) | (with_reducible refine AW.block ?_) | (with_reducible refine AW.skip ?_) | (with_reducible refine AW.ret ?_) | (with_reducible refine AW.exit ?_) | (with_reducible refine AW.reg hT ?_) | ((with_reducible refine AW.cond_true ?_ ?_); · rfl) | ((with_reducible refine AW.cond_false ?_ ?_); · rfl) | simp (maxSteps := 3000000) (maxDischargeDepth := 12) only [push_cast,appendX,reduceIte,reduceCtorEq,Nat.reduceSub,Nat.reduceAdd,Nat.reduceMul,Nat.reduceLT,Nat.reduceLeDiff,Nat.reduceEqDiff,Nat.reduceBEq,Int.reduceToNat,Int.reduceLT,Int.reduceLE,Int.reduceEq,Int.reduceNeg,Try.results7,dc1,gtx4,Heap.lt gtx4,↓dncl4,↓dnlf4])
    refine AW.name (fun σ5 hσ5 => ?_)
    have gtx5 : σ5.get p = some (RtO X (.imm (L.map eI))) := by subst hσ5; simp (maxSteps := 3000000) (maxDischargeDepth := 12) only [push_cast, appendX, Nat.reduceAdd, Nat.reduceEqDiff, Nat.reduceLT, Nat.reduceLeDiff, reduceIte, reduceCtorEq, dc1, gtx4, Heap.lt gtx4, ↓dncl4, ↓dnlf4]
    have gta5 : σ5.get σ4.n = some ⟨[[.sc (.int .i64 X.cls), .sc (.int .i64 (kindI X.cls)), db]], 32, true⟩ := by subst hσ5; simp (maxSteps := 3000000) (maxDischargeDepth := 12) only [push_cast, appendX, Nat.reduceAdd, Nat.reduceEqDiff, Nat.reduceLT, Nat.reduceLeDiff, reduceIte, reduceCtorEq, dc1, gtx4, Heap.lt gtx4, ↓dncl4, ↓dnlf4, gtx5, Heap.lt gtx5]
    have hh5 : Hold σ5 db 5 (bytesD (bodyI X L)) := by
      refine hh4.frame (X := []) ?_ (by simp)
      subst hσ5; repeat (first | exact Ext.refl _ _ | assumption | refine Ext.push ?_ _ | ((refine Ext.set ?_ ?_ _); rotate_left; · (simp (maxSteps := 3000000) (maxDischargeDepth := 12) only [push_cast, appendX, Nat.reduceAdd, Nat.reduceEqDiff, Nat.reduceLT, Nat.reduceLeDiff, reduceIte, reduceCtorEq, dc1, gtx4, Heap.lt gtx4, ↓dncl4, ↓dnlf4, gtx5, Heap.lt gtx5, gta5, Heap.lt gta5])) | ((refine Ext.then1 (by assumption) ?_ ?_); rotate_left; · (intro p hp _; first | assumption | exact List.mem_cons_of_mem _ hp | (cases hp; done) | (simp at hp; subst hp; simp))))
    clear hσ5 gtx4 hh4
    generalize σ4.n = r at gta5 hlt4 ⊢
    have gta5 := gta5
    refine AW.told (ts' := (.any :: .ptr p 0 0 1 :: .any :: .ptr r 0 0 1 :: .sc (.int .i64 0) :: .any :: .any :: .any :: .any :: .any :: .any :: .any :: .any :: .any :: .any :: .any :: .any :: .any :: .any :: .any :: .any :: .any :: .any :: .any :: .any :: .any :: .any :: .any :: .any :: .any :: .any :: .any :: .any :: .any :: .any :: .any :: .any :: .any :: .any :: .any :: .any :: .any :: .any :: .any :: .any :: .any :: .any :: .any :: .any :: .any :: .any :: .any :: .any :: .any :: .any :: .any :: .any :: .any :: .any :: .any :: .any :: .any :: .any :: .any :: .any :: .any :: .any :: .any :: .any :: .any :: .any :: .any :: .any :: .any :: .any :: .any :: .any :: .any :: .any :: .any :: .any :: .any :: .any :: .any :: .any :: .any :: .any :: .any :: .any :: .any :: .any :: .any :: .any :: .any :: .any :: .any :: .any :: .any :: .any :: .any :: [])) (by (simp only [push_cast, TellsL, tells_any, tells_refl])) ?_
    have hbl : (bodyI X L).length ≤ 1000000 := by
      obtain ⟨_, _, _, _, h2, _, h3, _⟩ := pack_cases X L
      rw [hpk] at h2
      injection h2 with _ h2
      injection h2 with _ h2
      injection h2 with h2 _
      rw [h2]; exact h3
    have hup := unpack_ok σ5 (k := kindI X.cls) dncl4 dnlf4 hh5.src (bodyI_octs X L) hbl hwx.1
    rw [unp_may hm] at hup
    have dcx : (X.cls == X.cls) = true := by simp
    repeat (first | (with_reducible refine AW.seq ?_) | (with_reducible refine AW.block ?_) | (with_reducible refine AW.skip ?_) | (with_reducible refine AW.ret ?_) | (with_reducible refine AW.exit ?_) | (with_reducible refine AW.reg hT ?_) | ((with_reducible refine AW.cond_true ?_ ?_); · rfl) | ((with_reducible refine AW.cond_false ?_ ?_); · rfl) | simp (maxSteps := 3000000) (maxDischargeDepth := 12) only [push_cast,appendX,reduceIte,reduceCtorEq,Nat.reduceSub,Nat.reduceAdd,Nat.reduceMul,Nat.reduceLT,Nat.reduceLeDiff,Nat.reduceEqDiff,Nat.reduceBEq,Int.reduceToNat,Int.reduceLT,Int.reduceLE,Int.reduceEq,Int.reduceNeg,Try.results7,RtO,itC_len,itC_d5,itC_0,dc1,↓dncl4,↓dnlf4,gtx5,Heap.lt gtx5,gta5,Heap.lt gta5,dcx])
    refine AOpsL.call (first := []) (cap := []) hT rfl rfl rfl fn14 rfl (ACalls.mono (hup) ?_)
    rintro r' σ6 ⟨xt6, dl, rfl, hh6, hd6⟩
    have gtx6 := xt6.get gtx5 (by simp)
    have gta6 := xt6.get gta5 (by simp)
    have hb6 := hh5.frame xt6 (by simp)
    clear hup xt6 gtx5 gta5 hh5 hd6
    have dncl6 := hh6.cells
    have dnlf6 := hh6.leaf
    repeat ((fail_if_success (with_reducible refine AW.at1 (id := 11) ?_)); (fail_if_success (with_reducible refine AW.at2 (id := 11) ?_)); first | (with_reducible refine AW.seq ?_) | (with_reducible refine AW.block ?_) | (with_reducible refine AW.skip ?_) | (with_reducible refine AW.ret ?_) | (with_reducible refine AW.exit ?_) | (with_reducible refine AW.reg hT ?_) | ((with_reducible refine AW.cond_true ?_ ?_); · rfl) | ((with_reducible refine AW.cond_false ?_ ?_); · rfl) | simp (maxSteps := 3000000) (maxDischargeDepth := 12) only [push_cast,appendX,reduceIte,reduceCtorEq,Nat.reduceSub,Nat.reduceAdd,Nat.reduceMul,Nat.reduceLT,Nat.reduceLeDiff,Nat.reduceEqDiff,Nat.reduceBEq,Int.reduceToNat,Int.reduceLT,Int.reduceLE,Int.reduceEq,Int.reduceNeg,Try.results7,itC_len,itC_take,itC_leaf,dc1,↓dncl4,↓dnlf4,dcx,gtx6,Heap.lt gtx6,gta6,Heap.lt gta6,↓dncl6,↓dnlf6])
    refine AW.name (fun σ7 hσ7 => ?_)
    have hA : ownA X L p r σ6.n dl db L (bodyI X L) σ7 := by
      subst hσ7
      exact ⟨by simp (maxSteps := 3000000) (maxDischargeDepth := 12) only [push_cast, appendX, Nat.reduceAdd, Nat.reduceEqDiff, Nat.reduceLT, Nat.reduceLeDiff, reduceIte, reduceCtorEq, dc1, ↓dncl4, ↓dnlf4, dcx, gtx6, Heap.lt gtx6, gta6, Heap.lt gta6, ↓dncl6, ↓dnlf6], by simp (maxSteps := 3000000) (maxDischargeDepth := 12) only [push_cast, appendX, Nat.reduceAdd, Nat.reduceEqDiff, Nat.reduceLT, Nat.reduceLeDiff, reduceIte, reduceCtorEq, dc1, ↓dncl4, ↓dnlf4, dcx, gtx6, Heap.lt gtx6, gta6, Heap.lt gta6, ↓dncl6, ↓dnlf6], by simp (maxSteps := 3000000) (maxDischargeDepth := 12) only [push_cast, appendX, Nat.reduceAdd, Nat.reduceEqDiff, Nat.reduceLT, Nat.reduceLeDiff, reduceIte, reduceCtorEq, ItO, dc1, ↓dncl4, ↓dnlf4, dcx, gtx6, Heap.lt gtx6, gta6, Heap.lt gta6, ↓dncl6, ↓dnlf6], hh6.frame (X := []) (by repeat (first | exact Ext.refl _ _ | assumption | refine Ext.push ?_ _ | ((refine Ext.set ?_ ?_ _); rotate_left; · (simp (maxSteps := 3000000) (maxDischargeDepth := 12) only [push_cast, appendX, Nat.reduceAdd, Nat.reduceEqDiff, Nat.reduceLT, Nat.reduceLeDiff, reduceIte, reduceCtorEq, dc1, ↓dncl4, ↓dnlf4, dcx, gtx6, Heap.lt gtx6, gta6, Heap.lt gta6, ↓dncl6, ↓dnlf6])) | ((refine Ext.then1 (by assumption) ?_ ?_); rotate_left; · (intro p hp _; first | assumption | exact List.mem_cons_of_mem _ hp | (cases hp; done) | (simp at hp; subst hp; simp))))) (by simp), hb6.frame (X := []) (by repeat (first | exact Ext.refl _ _ | assumption | refine Ext.push ?_ _ | ((refine Ext.set ?_ ?_ _); rotate_left; · (simp (maxSteps := 3000000) (maxDischargeDepth := 12) only [push_cast, appendX, Nat.reduceAdd, Nat.reduceEqDiff, Nat.reduceLT, Nat.reduceLeDiff, reduceIte, reduceCtorEq, dc1, ↓dncl4, ↓dnlf4, dcx, gtx6, Heap.lt gtx6, gta6, Heap.lt gta6, ↓dncl6, ↓dnlf6])) | ((refine Ext.then1 (by assumption) ?_ ?_); rotate_left; · (intro p hp _; first | assumption | exact List.mem_cons_of_mem _ hp | (cases hp; done) | (simp at hp; subst hp; simp))))) (by simp)⟩
    clear hσ7 gtx6 gta6 hb6 hh6
    generalize σ6.n = s at hA ⊢
    refine AW.told (ts' := (.any :: .ptr p 0 0 1 :: .any :: .ptr r 0 0 1 :: .any :: .ptr s 0 0 1 :: .sc (.int .i64 0) :: .any :: .any :: .any :: .any :: .any :: .any :: .any :: .any :: .any :: .any :: .any :: .any :: .any :: .any :: .any :: .any :: .any :: .any :: .any :: .any :: .any :: .any :: .any :: .any :: .any :: .any :: .any :: .any :: .any :: .any :: .any :: .any :: .any :: .any :: .any :: .any :: .any :: .any :: .any :: .any :: .any :: .any :: .any :: .any :: .any :: .any :: .any :: .any :: .any :: .any :: .any :: .any :: .any :: .any :: .any :: .any :: .any :: .any :: .any :: .any :: .any :: .any :: .any :: .any :: .any :: .any :: .any :: .any :: .any :: .any :: .any :: .any :: .any :: .any :: .any :: .any :: .any :: .any :: .any :: .any :: .any :: .any :: .any :: .any :: .any :: .any :: .any :: .any :: .any :: .any :: .any :: .any :: .any :: [])) (by (simp only [push_cast, TellsL, tells_any, tells_refl])) ?_
    obtain ⟨gtx7, gta7, gty7, hl7, hb7⟩ := id hA
    have dnl7 := lenH (ty := 23) hl7 rfl
    repeat (first | (with_reducible refine AW.seq ?_) | (with_reducible refine AW.block ?_) | (with_reducible refine AW.skip ?_) | (with_reducible refine AW.ret ?_) | (with_reducible refine AW.exit ?_) | (with_reducible refine AW.reg hT ?_) | ((with_reducible refine AW.cond_true ?_ ?_); · rfl) | ((with_reducible refine AW.cond_false ?_ ?_); · rfl) | simp (maxSteps := 3000000) (maxDischargeDepth := 12) only [push_cast,appendX,reduceIte,reduceCtorEq,Nat.reduceSub,Nat.reduceAdd,Nat.reduceMul,Nat.reduceLT,Nat.reduceLeDiff,Nat.reduceEqDiff,Nat.reduceBEq,Int.reduceToNat,Int.reduceLT,Int.reduceLE,Int.reduceEq,Int.reduceNeg,Try.results7,ItO,itC_len,itC_d5,dc1,↓dncl4,↓dnlf4,dcx,↓dncl6,↓dnlf6,gtx7,Heap.lt gtx7,gta7,Heap.lt gta7,gty7,Heap.lt gty7,↓dnl7])
    refine AW.loop (owI1 X L p r s dl db L.length (bodyI X L)) (m := L.length + 1) ⟨0, L, rfl, Nat.zero_le _, rfl, hA, by (simp only [push_cast, TellsL, tells_any, tells_refl])⟩ ?_
    clear hA gtx7 gta7 gty7 hl7 hb7
    rintro m ts σ8 ⟨i, els, rfl, hi, hel, hA, hts⟩
    refine AW.told hts ?_
    clear hts
    by_cases hlt : i < L.length
    · have dci : decide ((i : Int) < (L.length : Int)) = true := decide_eq_true (by omega)
      have dci2 : ((i : Int) < (L.length : Int)) = True := by simp; omega
      have dci0 : ((0 : Int) ≤ (i : Int)) = True := by simp
      have dcw : IntKind.i64.wrap ((i : Int) + 1) = (i : Int) + 1 := wrap_i64 (by omega) (by omega)
      have hic : (((i + 1 : Nat)) : Int) = (i : Int) + 1 := by omega
      obtain ⟨t, full, hdl, gtt, hcell, hA9⟩ := hA.store1 (i := i) (by omega)
      obtain ⟨gtx8, gta8, gty8, hl8, hb8⟩ := id hA
      have dns := hcell.store (y := .sc (.int .i64 99)) (ty := 3) gtt rfl rfl rfl rfl
      rw [hdl] at gty8
      have hml : (els.map eI).length = L.length := by simpa using hel
      rw [hml] at gty8
      repeat (first | (with_reducible refine AW.seq ?_) | (with_reducible refine AW.block ?_) | (with_reducible refine AW.skip ?_) | (with_reducible refine AW.ret ?_) | (with_reducible refine AW.exit ?_) | (with_reducible refine AW.reg hT ?_) | ((with_reducible refine AW.cond_true ?_ ?_); · rfl) | ((with_reducible refine AW.cond_false ?_ ?_); · rfl) | simp (maxSteps := 3000000) (maxDischargeDepth := 12) only [push_cast,appendX,reduceIte,reduceCtorEq,Nat.reduceSub,Nat.reduceAdd,Nat.reduceMul,Nat.reduceLT,Nat.reduceLeDiff,Nat.reduceEqDiff,Nat.reduceBEq,Int.reduceToNat,Int.reduceLT,Int.reduceLE,Int.reduceEq,Int.reduceNeg,Try.results7,ItO,itC_len,itC_d5,dc1,↓dncl4,↓dnlf4,dcx,↓dncl6,↓dnlf6,↓dnl7,dci,dci2,dci0,dcw,gtt,Heap.lt gtt,gtx8,Heap.lt gtx8,gta8,Heap.lt gta8,gty8,Heap.lt gty8,↓dns])
      exact ⟨L.length + 1 - (i + 1), by omega, i + 1, els.set i 99, rfl, hlt, by simpa using hel, hA9, by (simp only [push_cast, TellsL, tells_any, tells_refl, hic])⟩
    have dci : decide ((i : Int) < (L.length : Int)) = false := decide_eq_false (by omega)
    obtain ⟨gtx8, gta8, gty8, hl8, hb8⟩ := id hA
    have dnl8 := hold_len hb8
    repeat (first | (with_reducible refine AW.seq ?_) | (with_reducible refine AW.block ?_) | (with_reducible refine AW.skip ?_) | (with_reducible refine AW.ret ?_) | (with_reducible refine AW.exit ?_) | (with_reducible refine AW.reg hT ?_) | ((with_reducible refine AW.cond_true ?_ ?_); · rfl) | ((with_reducible refine AW.cond_false ?_ ?_); · rfl) | simp (maxSteps := 3000000) (maxDischargeDepth := 12) only [push_cast,appendX,reduceIte,reduceCtorEq,Nat.reduceSub,Nat.reduceAdd,Nat.reduceMul,Nat.reduceLT,Nat.reduceLeDiff,Nat.reduceEqDiff,Nat.reduceBEq,Int.reduceToNat,Int.reduceLT,Int.reduceLE,Int.reduceEq,Int.reduceNeg,Try.results7,dc1,↓dncl4,↓dnlf4,dcx,↓dncl6,↓dnlf6,↓dnl7,dci,gtx8,Heap.lt gtx8,gta8,Heap.lt gta8,gty8,Heap.lt gty8,↓dnl8])
    refine AW.loop (owI2 X L p r s dl db (bodyI X L).length els) (m := (bodyI X L).length + 1) ⟨0, bodyI X L, rfl, Nat.zero_le _, rfl, hA, by (simp only [push_cast, TellsL, tells_any, tells_refl])⟩ ?_
    clear hA gtx8 gta8 gty8 hl8 hb8
    rintro m ts σ9 ⟨j, bs, rfl, hj, hbs, hB, hts⟩
    refine AW.told hts ?_
    clear hts
    obtain ⟨gtx9, gta9, gty9, hl9, hb9⟩ := id hB
    by_cases hlt2 : j < (bodyI X L).length
    · have dcj : decide ((j : Int) < ((bodyI X L).length : Int)) = true := decide_eq_true (by omega)
      have dcj2 : ((j : Int) < ((bodyI X L).length : Int)) = True := by simp; omega
      have dcj0 : ((0 : Int) ≤ (j : Int)) = True := by simp
      have dcv : IntKind.i64.wrap ((j : Int) + 1) = (j : Int) + 1 := wrap_i64 (by omega) (by omega)
      have hjc : (((j + 1 : Nat)) : Int) = (j : Int) + 1 := by omega
      obtain ⟨t, full, hdl, gtt, hcell, hB9⟩ := hB.store2 (i := j) (by omega)
      have dns := hcell.store (y := .sc (.int .u8 255)) (ty := 5) gtt rfl rfl rfl rfl
      rw [hdl] at gta9
      have hml : (bytesD bs).length = (bodyI X L).length := by rw [bytesD_length]; exact hbs
      rw [hml] at gta9
      repeat (first | (with_reducible refine AW.seq ?_) | (with_reducible refine AW.block ?_) | (with_reducible refine AW.skip ?_) | (with_reducible refine AW.ret ?_) | (with_reducible refine AW.exit ?_) | (with_reducible refine AW.reg hT ?_) | ((with_reducible refine AW.cond_true ?_ ?_); · rfl) | ((with_reducible refine AW.cond_false ?_ ?_); · rfl) | simp (maxSteps := 3000000) (maxDischargeDepth := 12) only [push_cast,appendX,reduceIte,reduceCtorEq,Nat.reduceSub,Nat.reduceAdd,Nat.reduceMul,Nat.reduceLT,Nat.reduceLeDiff,Nat.reduceEqDiff,Nat.reduceBEq,Int.reduceToNat,Int.reduceLT,Int.reduceLE,Int.reduceEq,Int.reduceNeg,Try.results7,dc1,↓dncl4,↓dnlf4,dcx,↓dncl6,↓dnlf6,↓dnl7,dci,↓dnl8,gtx9,Heap.lt gtx9,gta9,Heap.lt gta9,gty9,Heap.lt gty9,dcj,dcj2,dcj0,dcv,gtt,Heap.lt gtt,↓dns])
      exact ⟨(bodyI X L).length + 1 - (j + 1), by omega, j + 1, bs.set j 255, rfl, hlt2, by simpa using hbs, hB9, by (simp only [push_cast, TellsL, tells_any, tells_refl, hjc])⟩
    have dcj : decide ((j : Int) < ((bodyI X L).length : Int)) = false := decide_eq_false (by omega)
    clear hB gta9 gty9 hl9 hb9
    repeat (first | (with_reducible refine AW.seq ?_) | (with_reducible refine AW.block ?_) | (with_reducible refine AW.skip ?_) | (with_reducible refine AW.ret ?_) | (with_reducible refine AW.exit ?_) | (with_reducible refine AW.reg hT ?_) | ((with_reducible refine AW.cond_true ?_ ?_); · rfl) | ((with_reducible refine AW.cond_false ?_ ?_); · rfl) | simp (maxSteps := 3000000) (maxDischargeDepth := 12) only [push_cast,appendX,reduceIte,reduceCtorEq,Nat.reduceSub,Nat.reduceAdd,Nat.reduceMul,Nat.reduceLT,Nat.reduceLeDiff,Nat.reduceEqDiff,Nat.reduceBEq,Int.reduceToNat,Int.reduceLT,Int.reduceLE,Int.reduceEq,Int.reduceNeg,Try.results7,RtO,itC_len,itC_take,itC_leaf,dc1,↓dncl4,↓dnlf4,dcx,↓dncl6,↓dnlf6,↓dnl7,dci,↓dnl8,gtx9,Heap.lt gtx9,dcj])
    refine AOpsL.call (first := []) (cap := []) hT rfl rfl rfl fn10 rfl (ACalls.mono (ltheirs_ok _ X rfl rfl) ?_)
    rintro r1 σ10 ⟨rfl, xt10⟩
    repeat (first | (with_reducible refine AW.seq ?_) | (with_reducible refine AW.block ?_) | (with_reducible refine AW.skip ?_) | (with_reducible refine AW.ret ?_) | (with_reducible refine AW.exit ?_) | (with_reducible refine AW.reg hT ?_) | ((with_reducible refine AW.cond_true ?_ ?_); · rfl) | ((with_reducible refine AW.cond_false ?_ ?_); · rfl) | simp (maxSteps := 3000000) (maxDischargeDepth := 12) only [push_cast,appendX,reduceIte,reduceCtorEq,Nat.reduceSub,Nat.reduceAdd,Nat.reduceMul,Nat.reduceLT,Nat.reduceLeDiff,Nat.reduceEqDiff,Nat.reduceBEq,Int.reduceToNat,Int.reduceLT,Int.reduceLE,Int.reduceEq,Int.reduceNeg,Try.results7,dc1,↓dncl4,↓dnlf4,dcx,↓dncl6,↓dnlf6,↓dnl7,dci,↓dnl8,gtx9,Heap.lt gtx9,dcj,xt10.2,xt10.ltT,xt10.leT])
    refine AOpsL.call (first := []) (cap := []) hT rfl rfl rfl fn9 rfl (ACalls.mono (packE_ok _ hwx (by omega) hpk) ?_)
    rintro r1 σ11 ⟨rfl, xt11⟩
    have gtx11 := xt11.get (xt10.get gtx9 (by simp)) (by simp)
    clear xt10 xt11 gtx9
    repeat (first | (with_reducible refine AW.seq ?_) | (with_reducible refine AW.block ?_) | (with_reducible refine AW.skip ?_) | (with_reducible refine AW.ret ?_) | (with_reducible refine AW.exit ?_) | (with_reducible refine AW.reg hT ?_) | ((with_reducible refine AW.cond_true ?_ ?_); · rfl) | ((with_reducible refine AW.cond_false ?_ ?_); · rfl) | simp (maxSteps := 3000000) (maxDischargeDepth := 12) only [push_cast,appendX,reduceIte,reduceCtorEq,Nat.reduceSub,Nat.reduceAdd,Nat.reduceMul,Nat.reduceLT,Nat.reduceLeDiff,Nat.reduceEqDiff,Nat.reduceBEq,Int.reduceToNat,Int.reduceLT,Int.reduceLE,Int.reduceEq,Int.reduceNeg,Try.results7,oC,dc1,↓dncl4,↓dnlf4,dcx,↓dncl6,↓dnlf6,↓dnl7,dci,↓dnl8,dcj,gtx11,Heap.lt gtx11])
    refine AOpsL.call (first := []) (cap := []) hT rfl rfl rfl fn14 rfl (ACalls.mono (unpackE_ok _ (bodyI_octs X L) hbl hwx.1 (unp_may hm)) ?_)
    rintro r1 σ12 ⟨rfl, xt12⟩
    have gtx12 : σ12.get p = some (RtO X (.imm (L.map eI))) := xt12.get (by simp (maxSteps := 3000000) (maxDischargeDepth := 12) only [push_cast, appendX, Nat.reduceAdd, Nat.reduceEqDiff, Nat.reduceLT, Nat.reduceLeDiff, reduceIte, reduceCtorEq, dc1, ↓dncl4, ↓dnlf4, dcx, ↓dncl6, ↓dnlf6, ↓dnl7, dci, ↓dnl8, dcj, gtx11, Heap.lt gtx11, xt12.2, xt12.ltT, xt12.leT]) (by simp)
    clear xt12 gtx11
    repeat ((fail_if_success (with_reducible refine AW.at1 (id := 23) ?_)); (fail_if_success (with_reducible refine AW.at2 (id := 23) ?_)); first | (with_reducible refine AW.seq ?_) | (with_reducible refine AW.block ?_) | (with_reducible refine AW.skip ?_) | (with_reducible refine AW.ret ?_) | (with_reducible refine AW.exit ?_) | (with_reducible refine AW.reg hT ?_) | ((with_reducible refine AW.cond_true ?_ ?_); · rfl) | ((with_reducible refine AW.cond_false ?_ ?_); · rfl) | simp (maxSteps := 3000000) (maxDischargeDepth := 12) only [push_cast,appendX,reduceIte,reduceCtorEq,Nat.reduceSub,Nat.reduceAdd,Nat.reduceMul,Nat.reduceLT,Nat.reduceLeDiff,Nat.reduceEqDiff,Nat.reduceBEq,Int.reduceToNat,Int.reduceLT,Int.reduceLE,Int.reduceEq,Int.reduceNeg,Try.results7,itC_len,itC_take,itC_leaf,dc1,↓dncl4,↓dnlf4,dcx,↓dncl6,↓dnlf6,↓dnl7,dci,↓dnl8,dcj,gtx12,Heap.lt gtx12])
    refine AW.name (fun σ13 hσ13 => ?_)
    have gtx13 : σ13.get p = some (RtO X (.imm (L.map eI))) := by subst hσ13; simp (maxSteps := 3000000) (maxDischargeDepth := 12) only [push_cast, appendX, Nat.reduceAdd, Nat.reduceEqDiff, Nat.reduceLT, Nat.reduceLeDiff, reduceIte, reduceCtorEq, dc1, ↓dncl4, ↓dnlf4, dcx, ↓dncl6, ↓dnlf6, ↓dnl7, dci, ↓dnl8, dcj, gtx12, Heap.lt gtx12]
    have gtz13 : σ13.get σ12.n = some (ItO X (.imm (L.map eI))) := by subst hσ13; simp (maxSteps := 3000000) (maxDischargeDepth := 12) only [push_cast, appendX, Nat.reduceAdd, Nat.reduceEqDiff, Nat.reduceLT, Nat.reduceLeDiff, reduceIte, reduceCtorEq, ItO, dc1, ↓dncl4, ↓dnlf4, dcx, ↓dncl6, ↓dnlf6, ↓dnl7, dci, ↓dnl8, dcj, gtx12, Heap.lt gtx12, gtx13, Heap.lt gtx13]
    clear hσ13 gtx12
    generalize σ12.n = z at gtz13 ⊢
    have gtz13 := gtz13
    refine AW.told (ts' := (.any :: .ptr p 0 0 1 :: .any :: .any :: .any :: .any :: .sc (.int .i64 0) :: .any :: .any :: .any :: .sc (.int .i64 0) :: .ptr z 0 0 1 :: .sc (.int .i64 0) :: .any :: .any :: .any :: .any :: .any :: .any :: .any :: .any :: .any :: .any :: .any :: .any :: .any :: .any :: .any :: .any :: .any :: .any :: .any :: .any :: .any :: .any :: .any :: .any :: .any :: .any :: .any :: .any :: .any :: .any :: .any :: .any :: .any :: .any :: .any :: .any :: .any :: .any :: .any :: .any :: .any :: .any :: .any :: .any :: .any :: .any :: .any :: .any :: .any :: .any :: .any :: .any :: .any :: .any :: .any :: .any :: .any :: .any :: .any :: .any :: .any :: .any :: .any :: .any :: .any :: .any :: .any :: .any :: .any :: .any :: .any :: .any :: .any :: .any :: .any :: .any :: .any :: .any :: .any :: .any :: .any :: .any :: .any :: .any :: .any :: .any :: .any :: [])) (by (simp only [push_cast, TellsL, tells_any, tells_refl])) ?_
    repeat (first | (with_reducible refine AW.seq ?_) | (with_reducible refine AW.block ?_) | (with_reducible refine AW.skip ?_) | (with_reducible refine AW.ret ?_) | (with_reducible refine AW.exit ?_) | (with_reducible refine AW.reg hT ?_) | (with_reducible refine AW.drawn (id := 23) hT [0,1,2,3,4,5,6,7,8,9,10,11,13,12,14,15,16] [[],[0],[0,1],[0,1,2],[0,1,2,3],[0,1,2,3,4],[0,1,2,3,4,5],[0,1,2,3,4,5,6],[0,1,2,3,4,5,6,7],[0,1,2,3,4,5,6,7,8],[0,1,2,3,4,5,6,7,8,9],[0,1,2,3,4,5,6,7,8,9,10],[0,1,2,3,4,5,6,7,8,9,10,11],[0,1,2,3,4,5,6,7,8,9,10],[0,1,2,3,4,5,6,7,8,9,10,11,12,13],[0,1,2,3,4,5,6,7,8,9,10,11,12,13,14],[0,1,2,3,4,5,6,7,8,9,10,11,12,13,14,15]] mix (by kernel_rfl) ?_) | ((with_reducible show DLeft _ _ _ _ (_ :: _) _ _ _ _); (with_reducible apply DLeft.step hT); (case hoi => ((simp only [List.getElem?_toArray,List.getElem?_cons_zero,List.getElem?_cons_succ]); with_reducible rfl)); (case hg => rfl); (case hk => rfl); (case hr => ((try simp (maxSteps := 3000000) (maxDischargeDepth := 12) only [push_cast,appendX,reduceIte,reduceCtorEq,Nat.reduceSub,Nat.reduceAdd,Nat.reduceMul,Nat.reduceLT,Nat.reduceLeDiff,Nat.reduceEqDiff,Nat.reduceBEq,Int.reduceToNat,Int.reduceLT,Int.reduceLE,Int.reduceEq,Int.reduceNeg,Try.results7,RtO,ItO,itC_len,itC_take,itC_d5,itC_leaf,dc1,↓dncl4,↓dnlf4,dcx,↓dncl6,↓dnlf6,↓dnl7,dci,↓dnl8,dcj,gtx13,Heap.lt gtx13,gtz13,Heap.lt gtz13]); with_reducible rfl))) | ((with_reducible refine AW.cond_true ?_ ?_); · rfl) | ((with_reducible refine AW.cond_false ?_ ?_); · rfl) | simp (maxSteps := 3000000) (maxDischargeDepth := 12) only [push_cast,appendX,reduceIte,reduceCtorEq,Nat.reduceSub,Nat.reduceAdd,Nat.reduceMul,Nat.reduceLT,Nat.reduceLeDiff,Nat.reduceEqDiff,Nat.reduceBEq,Int.reduceToNat,Int.reduceLT,Int.reduceLE,Int.reduceEq,Int.reduceNeg,Try.results7,RtO,ItO,itC_len,itC_take,itC_d5,itC_leaf,dc1,↓dncl4,↓dnlf4,dcx,↓dncl6,↓dnlf6,↓dnl7,dci,↓dnl8,dcj,gtx13,Heap.lt gtx13,gtz13,Heap.lt gtz13])
    ((apply DLeft.call (f := 18) (first := []) (cap := [])); (case hoi => ((simp only [List.getElem?_toArray, List.getElem?_cons_zero, List.getElem?_cons_succ]); with_reducible rfl)); (case hg => rfl); (case ho => rfl); (case hc => rfl); (case hf => exact fn18); (case has => rfl)); refine ACalls.mono (lours_ok _ X rfl rfl) ?_
    rintro r1 σ14 ⟨rfl, xt14⟩
    have gtx14 := xt14.get gtx13 (by simp)
    clear gtx13 gtz13 xt14
    repeat (first | (with_reducible refine AW.seq ?_) | (with_reducible refine AW.block ?_) | (with_reducible refine AW.skip ?_) | (with_reducible refine AW.ret ?_) | (with_reducible refine AW.exit ?_) | (with_reducible refine AW.reg hT ?_) | (with_reducible refine AW.drawn (id := 23) hT [0,1,2,3,4,5,6,7,8,9,10,11,13,12,14,15,16] [[],[0],[0,1],[0,1,2],[0,1,2,3],[0,1,2,3,4],[0,1,2,3,4,5],[0,1,2,3,4,5,6],[0,1,2,3,4,5,6,7],[0,1,2,3,4,5,6,7,8],[0,1,2,3,4,5,6,7,8,9],[0,1,2,3,4,5,6,7,8,9,10],[0,1,2,3,4,5,6,7,8,9,10,11],[0,1,2,3,4,5,6,7,8,9,10],[0,1,2,3,4,5,6,7,8,9,10,11,12,13],[0,1,2,3,4,5,6,7,8,9,10,11,12,13,14],[0,1,2,3,4,5,6,7,8,9,10,11,12,13,14,15]] mix (by kernel_rfl) ?_) | ((with_reducible show DLeft _ _ _ _ (_ :: _) _ _ _ _); (with_reducible apply DLeft.step hT); (case hoi => ((simp only [List.getElem?_toArray,List.getElem?_cons_zero,List.getElem?_cons_succ]); with_reducible rfl)); (case hg => rfl); (case hk => rfl); (case hr => ((try simp (maxSteps := 3000000) (maxDischargeDepth := 12) only [push_cast,appendX,reduceIte,reduceCtorEq,Nat.reduceSub,Nat.reduceAdd,Nat.reduceMul,Nat.reduceLT,Nat.reduceLeDiff,Nat.reduceEqDiff,Nat.reduceBEq,Int.reduceToNat,Int.reduceLT,Int.reduceLE,Int.reduceEq,Int.reduceNeg,Try.results7,RtO,ItO,itC_len,itC_take,itC_d5,itC_leaf,dc1,↓dncl4,↓dnlf4,dcx,↓dncl6,↓dnlf6,↓dnl7,dci,↓dnl8,dcj,gtx14,Heap.lt gtx14]); with_reducible rfl))) | ((with_reducible refine AW.cond_true ?_ ?_); · rfl) | ((with_reducible refine AW.cond_false ?_ ?_); · rfl) | simp (maxSteps := 3000000) (maxDischargeDepth := 12) only [push_cast,appendX,reduceIte,reduceCtorEq,Nat.reduceSub,Nat.reduceAdd,Nat.reduceMul,Nat.reduceLT,Nat.reduceLeDiff,Nat.reduceEqDiff,Nat.reduceBEq,Int.reduceToNat,Int.reduceLT,Int.reduceLE,Int.reduceEq,Int.reduceNeg,Try.results7,RtO,ItO,itC_len,itC_take,itC_d5,itC_leaf,dc1,↓dncl4,↓dnlf4,dcx,↓dncl6,↓dnlf6,↓dnl7,dci,↓dnl8,dcj,gtx14,Heap.lt gtx14])
    ((apply DLeft.call (f := 17) (first := []) (cap := [])); (case hoi => ((simp only [List.getElem?_toArray, List.getElem?_cons_zero, List.getElem?_cons_succ]); with_reducible rfl)); (case hg => rfl); (case ho => rfl); (case hc => rfl); (case hf => exact fn17); (case has => rfl)); refine ACalls.mono (rsame_ok _ (by omega)) ?_
    rintro r1 σ15 ⟨xt15, e2, rfl, hb2⟩
    have h2 : e2 = true := hb2.2 ⟨rfl, rfl⟩
    subst h2
    repeat (first | (with_reducible refine AW.seq ?_) | (with_reducible refine AW.block ?_) | (with_reducible refine AW.skip ?_) | (with_reducible refine AW.ret ?_) | (with_reducible refine AW.exit ?_) | (with_reducible refine AW.reg hT ?_) | (with_reducible refine AW.drawn (id := 23) hT [0,1,2,3,4,5,6,7,8,9,10,11,13,12,14,15,16] [[],[0],[0,1],[0,1,2],[0,1,2,3],[0,1,2,3,4],[0,1,2,3,4,5],[0,1,2,3,4,5,6],[0,1,2,3,4,5,6,7],[0,1,2,3,4,5,6,7,8],[0,1,2,3,4,5,6,7,8,9],[0,1,2,3,4,5,6,7,8,9,10],[0,1,2,3,4,5,6,7,8,9,10,11],[0,1,2,3,4,5,6,7,8,9,10],[0,1,2,3,4,5,6,7,8,9,10,11,12,13],[0,1,2,3,4,5,6,7,8,9,10,11,12,13,14],[0,1,2,3,4,5,6,7,8,9,10,11,12,13,14,15]] mix (by kernel_rfl) ?_) | ((with_reducible show DLeft _ _ _ _ (_ :: _) _ _ _ _); (with_reducible apply DLeft.step hT); (case hoi => ((simp only [List.getElem?_toArray,List.getElem?_cons_zero,List.getElem?_cons_succ]); with_reducible rfl)); (case hg => rfl); (case hk => rfl); (case hr => ((try simp (maxSteps := 3000000) (maxDischargeDepth := 12) only [push_cast,appendX,reduceIte,reduceCtorEq,Nat.reduceSub,Nat.reduceAdd,Nat.reduceMul,Nat.reduceLT,Nat.reduceLeDiff,Nat.reduceEqDiff,Nat.reduceBEq,Int.reduceToNat,Int.reduceLT,Int.reduceLE,Int.reduceEq,Int.reduceNeg,Try.results7,dc1,↓dncl4,↓dnlf4,dcx,↓dncl6,↓dnlf6,↓dnl7,dci,↓dnl8,dcj,gtx14,Heap.lt gtx14,xt15.2,xt15.ltT,xt15.leT]); with_reducible rfl))) | ((with_reducible refine AW.cond_true ?_ ?_); · rfl) | ((with_reducible refine AW.cond_false ?_ ?_); · rfl) | simp (maxSteps := 3000000) (maxDischargeDepth := 12) only [push_cast,appendX,reduceIte,reduceCtorEq,Nat.reduceSub,Nat.reduceAdd,Nat.reduceMul,Nat.reduceLT,Nat.reduceLeDiff,Nat.reduceEqDiff,Nat.reduceBEq,Int.reduceToNat,Int.reduceLT,Int.reduceLE,Int.reduceEq,Int.reduceNeg,Try.results7,dc1,↓dncl4,↓dnlf4,dcx,↓dncl6,↓dnlf6,↓dnl7,dci,↓dnl8,dcj,gtx14,Heap.lt gtx14,xt15.2,xt15.ltT,xt15.leT])
  · refine AOpsL.call (first := []) (cap := []) hT rfl rfl rfl fn9 rfl (ACalls.mono (packF_ok _ hwx (by omega) hm) ?_)
    rintro r σ4 ⟨rfl, xt4⟩
    have dcz : (((bytesD []).length : Int) == 0) = true := rfl
    repeat (first | (with_reducible refine AW.seq ?_) | (with_reducible refine AW.block ?_) | (with_reducible refine AW.skip ?_) | (with_reducible refine AW.ret ?_) | (with_reducible refine AW.exit ?_) | (with_reducible refine AW.reg hT ?_) | ((with_reducible refine AW.cond_true ?_ ?_); · rfl) | ((with_reducible refine AW.cond_false ?_ ?_); · rfl) | simp (maxSteps := 3000000) (maxDischargeDepth := 12) only [push_cast,appendX,reduceIte,reduceCtorEq,Nat.reduceSub,Nat.reduceAdd,Nat.reduceMul,Nat.reduceLT,Nat.reduceLeDiff,Nat.reduceEqDiff,Nat.reduceBEq,Int.reduceToNat,Int.reduceLT,Int.reduceLE,Int.reduceEq,Int.reduceNeg,Try.results7,oC,dc1,xt4.2,xt4.ltT,xt4.leT,dcz])
end Go.Proofs.Ytdibcgcildcjnaa.Cm
