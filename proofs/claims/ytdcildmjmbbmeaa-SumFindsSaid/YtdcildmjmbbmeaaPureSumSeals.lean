/- SumSeals' plain law. -/
import Derived.Test.YtdcildmjmbbmeaaQ3
import Derived.Test.YtdcildmjmbbmeaaPureSum
namespace Go.Proofs.Ytdcildmjmbbmeaa.Ref
open Go.RowKit Go.Proofs.Ytdcildmjmbbmeaa.Q Go.Proofs.YtdcildmjmbbmeaaW.PrintWords Go.Proofs.YtdcildmjmbbmeaaW.PrintLast Go.Proofs.Ytdcildmjmbbmeaa.Giv
/-- The bytes with noughts at a place, and with the sum there. -/
def zeroed (l : List Int) (at_ : Nat) : List Int := (l.set at_ 0).set (at_ + 1) 0
def sealed (l : List Int) (at_ : Nat) : List Int := ((zeroed l at_).set at_ (ofF (zeroed l at_) / 256)).set (at_ + 1) (ofF (zeroed l at_) % 256)
theorem zeroed_length (l : List Int) (i : Nat) : (zeroed l i).length = l.length := by simp [zeroed]
theorem sealed_length (l : List Int) (i : Nat) : (sealed l i).length = l.length := by simp [sealed, zeroed]
theorem zeroed_ok {l : List Int} (h : okB l) (i : Nat) : okB (zeroed l i) := okB_set (okB_set h i (by omega) (by omega)) _ (by omega) (by omega)
theorem sealed_ok {l : List Int} (h : okB l) (i : Nat) : okB (sealed l i) := by
  have hr := ofF_range _ (zeroed_ok h i)
  exact okB_set (okB_set (zeroed_ok h i) i (by omega) (by omega)) _ (by omega) (by omega)
theorem vsum_sealed {l : List Int} (i : Nat) (he : i % 2 = 0) (hi : i + 1 < l.length) : vsum (sealed l i) = vsum (zeroed l i) + ofF (zeroed l i) := by
  have hl := zeroed_length l i
  have h1 : i < (zeroed l i).length := by omega
  have h2 : i + 1 < ((zeroed l i).set i (ofF (zeroed l i) / 256)).length := by simp; omega
  unfold sealed
  rw [vsum_set _ _ _ h2, vsum_set _ _ _ h1]
  have z1 : (zeroed l i)[i] = 0 := by
    simp [zeroed]
  have z2 : ((zeroed l i).set i (ofF (zeroed l i) / 256))[i + 1] = 0 := by
    rw [List.getElem_set_ne (by omega)]
    simp [zeroed]
  have w1 : wt i = 256 := by unfold wt; rw [if_pos he]
  have w2 : wt (i + 1) = 1 := by unfold wt; rw [if_neg (by omega)]
  rw [z1, z2, w1, w2]
  omega
theorem sealed_right {l : List Int} (h : okB l) (i : Nat) (he : i % 2 = 0) (hi : i + 1 < l.length) : ofF (sealed l i) = 0 ∧ vsum (sealed l i) % 65535 = 0 ∧ 0 < vsum (sealed l i) := by
  have hz := vsum_nonneg _ (zeroed_ok h i)
  rw [ofF_vsum _ (sealed_ok h i), vsum_sealed i he hi, ofF_vsum _ (zeroed_ok h i)]
  generalize vsum (zeroed l i) = v at *
  unfold norm
  split <;> split <;> omega

theorem seal_f {l : List Int} (hB : okB l) (hl : l.length ≤ 4096) (i : Nat) (he : i % 2 = 0) (hi : i + 1 < l.length) : sum_Seal.f l (i : Int) = some (sealed l i, 0) := by
  have hr := ofF_range _ (zeroed_ok hB i)
  have e1 : wrap64 ((i : Int) + 1) = ((i + 1 : Nat) : Int) := by rw [wrap64_id (by omega) (by omega)]; omega
  unfold sum_Seal.f
  rw [if_neg (by omega), if_pos (by rw [Int.tmod_eq_emod_of_nonneg (by omega)]; omega), if_neg (by rw [wrap64_id (by omega) (by omega)]; omega), if_pos (by simp; omega)]
  simp only [Option.bind_some, List.nil_append]
  rw [e1, if_pos (by omega), if_pos (by omega), if_pos (by omega), if_pos (by omega)]
  simp only [Int.toNat_natCast]
  have hz : (l.set i 0).set (i + 1) 0 = zeroed l i := rfl
  rw [hz, of_f (by rw [zeroed_length]; omega) (zeroed_ok hB i)]
  simp only [Option.bind_some]
  have e2 : ofF (zeroed l i) / 256 % 256 = ofF (zeroed l i) / 256 := by omega
  rw [e2]
  rfl
theorem seal_bad {l : List Int} (hl : l.length ≤ 4096) {a : Int} (hlo : -9223372036854775808 ≤ a) (hhi : a ≤ 9223372036854775807) (h : ¬ (0 ≤ a ∧ a % 2 = 0 ∧ a + 1 < l.length)) : sum_Seal.f l a = some ([], 2) := by
  unfold sum_Seal.f
  by_cases h0 : a < 0
  · rw [if_pos h0]
  · rw [if_neg h0]
    by_cases h1 : a % 2 = 0
    · rw [if_pos (by rw [Int.tmod_eq_emod_of_nonneg (by omega)]; exact h1), if_pos (by rw [wrap64_id (by omega) (by omega)]; omega)]
    · rw [if_neg (by rw [Int.tmod_eq_emod_of_nonneg (by omega)]; exact h1)]
theorem refseal_ev {l : List Int} (hB : okB l) (hl : l.length ≤ 4096) (i : Nat) (he : i % 2 = 0) (hi : i + 1 < l.length) : Ev (fun k => viaductref02_Seal.f k l (i : Int)) (sealed l i, 0) := by
  have hr := ofF_range _ (zeroed_ok hB i)
  have ho := refOf_ev (zeroed l i) (zeroed_ok hB i) (by rw [zeroed_length]; exact hl)
  have e1 : wrap64 ((i : Int) + 1) = ((i + 1 : Nat) : Int) := by rw [wrap64_id (by omega) (by omega)]; omega
  refine Ev.congr (f := fun k => (viaductref02_Of.f k (zeroed l i)).bind fun t142 => (some ((((zeroed l i).set i ((wrap64 (Int.tdiv t142 256)) % 256)).set (i + 1) ((Int.tmod t142 256) % 256)), (0 : Int)))) (fun k => ?_) (Ev.bind ho ?_)
  · unfold viaductref02_Seal.f
    rw [if_neg (by omega), if_neg (by rw [Int.tmod_eq_emod_of_nonneg (by omega)]; omega), if_neg (by rw [wrap64_id (by omega) (by omega)]; omega)]
    simp only [Option.bind_some, List.nil_append]
    rw [if_pos (by simp; omega), e1, if_pos (by omega), if_pos (by omega), if_pos (by omega), if_pos (by omega)]
    simp only [Int.toNat_natCast]
    rfl
  · refine Ev.congr (f := fun _ => some (sealed l i, 0)) (fun k => ?_) (Ev.now _)
    have e2 : wrap64 (Int.tdiv (ofF (zeroed l i)) 256) % 256 = ofF (zeroed l i) / 256 := by
      rw [Int.tdiv_eq_ediv_of_nonneg (by omega), wrap64_id (by omega) (by omega)]
      omega
    have e3 : Int.tmod (ofF (zeroed l i)) 256 % 256 = ofF (zeroed l i) % 256 := by
      rw [Int.tmod_eq_emod_of_nonneg (by omega)]
      omega
    rw [e2, e3]
    rfl
theorem refseal_bad {l : List Int} (hl : l.length ≤ 4096) {a : Int} (hlo : -9223372036854775808 ≤ a) (hhi : a ≤ 9223372036854775807) (h : ¬ (0 ≤ a ∧ a % 2 = 0 ∧ a + 1 < l.length)) (k : Nat) : viaductref02_Seal.f k l a = some ([], 2) := by
  unfold viaductref02_Seal.f
  by_cases h0 : a < 0
  · rw [if_pos h0]
  · rw [if_neg h0]
    by_cases h1 : a % 2 = 0
    · rw [if_neg (by rw [Int.tmod_eq_emod_of_nonneg (by omega)]; omega), if_pos (by rw [wrap64_id (by omega) (by omega)]; omega)]
    · rw [if_pos (by rw [Int.tmod_eq_emod_of_nonneg (by omega)]; omega)]
end Go.Proofs.Ytdcildmjmbbmeaa.Ref
namespace Go.Proofs.Ytdcildmjmbbmeaa.Pure
open Go.RowKit Go.Proofs.Ytdcildmjmbbmeaa.Q Go.Proofs.YtdcildmjmbbmeaaW.PrintWords Go.Proofs.YtdcildmjmbbmeaaW.PrintLast Go.Proofs.Ytdcildmjmbbmeaa.Giv Go.Proofs.Ytdcildmjmbbmeaa.Ref

theorem SumSeals : viaductlaw02_SumSeals.Pure := by
  intro l a hm _ hw ha
  have hB := okB_wf hw
  have hA := bounds_i64 ha
  by_cases hl : l.length ≤ 4096
  · by_cases h : 0 ≤ a ∧ a % 2 = 0 ∧ a + 1 < l.length
    · obtain ⟨h0, he, hi⟩ := h
      obtain ⟨i, rfl⟩ := Int.eq_ofNat_of_zero_le h0
      obtain ⟨k, hk⟩ := (refseal_ev hB hl i (by omega) (by omega)).rounds
      have hs := sealed_right hB i (by omega) (by omega)
      refine ⟨k, ?_⟩
      unfold viaductlaw02_SumSeals.f
      rw [alive02]
      simp only [Option.bind_some, if_true]
      rw [if_neg (by omega), seal_f hB hl i (by omega) (by omega)]
      simp only [Option.bind_some]
      rw [hk]
      simp only [Option.bind_some, if_true]
      rw [right_f (by rw [sealed_length]; omega) (sealed_ok hB i), hs.1]
      rfl
    · refine ⟨0, ?_⟩
      unfold viaductlaw02_SumSeals.f
      rw [alive02]
      simp only [Option.bind_some, if_true]
      rw [if_neg (by omega), seal_bad hl hA.1 hA.2 h]
      simp only [Option.bind_some]
      rw [refseal_bad hl hA.1 hA.2 h]
      simp
  · refine ⟨0, ?_⟩
    unfold viaductlaw02_SumSeals.f
    rw [alive02]
    simp only [Option.bind_some, if_true]
    rw [if_pos (by omega)]
end Go.Proofs.Ytdcildmjmbbmeaa.Pure
