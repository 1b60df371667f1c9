/- SumFinds' plain law. -/
import Derived.Test.YtdcildmjmbbmeaaQ4
import Derived.Test.YtdcildmjmbbmeaaPureSumSeals
namespace Go.Proofs.Ytdcildmjmbbmeaa.Pure
open Go.RowKit Go.Proofs.Ytdcildmjmbbmeaa.Q Go.Proofs.YtdcildmjmbbmeaaW.PrintWords Go.Proofs.YtdcildmjmbbmeaaW.PrintLast Go.Proofs.Ytdcildmjmbbmeaa.Giv Go.Proofs.Ytdcildmjmbbmeaa.Ref

theorem xor_byte {a b : Int} (ha : 0 ≤ a ∧ a ≤ 255) (hb : 0 ≤ b ∧ b ≤ 255) (hne : b ≠ 0) : (0 ≤ Go.bits .xor .u8 a b ∧ Go.bits .xor .u8 a b ≤ 255) ∧ Go.bits .xor .u8 a b ≠ a := by
  obtain ⟨x, rfl⟩ := Int.eq_ofNat_of_zero_le ha.1
  obtain ⟨y, rfl⟩ := Int.eq_ofNat_of_zero_le hb.1
  rw [u8_xor_nat _ _ (by omega) (by omega)]
  have hx : x ^^^ y < 2 ^ 8 := Nat.xor_lt_two_pow (by omega) (by omega)
  refine ⟨by omega, fun h => ?_⟩
  have h1 : x ^^^ y = x := by omega
  have h2 : y = 0 := by
    have h3 : x ^^^ (x ^^^ y) = x ^^^ x := by rw [h1]
    rw [← Nat.xor_assoc, Nat.xor_self, Nat.zero_xor] at h3
    exact h3
  omega

theorem SumFinds : viaductlaw02_SumFinds.Pure := by
  intro l a b hm _ hw ha hb
  have hB := okB_wf hw
  have hA := bounds_i64 ha
  have hb2 := bounds_u8 hb
  unfold viaductlaw02_SumFinds.f
  rw [alive02]
  simp only [Option.bind_some, if_true]
  by_cases hl : l.length ≤ 4096
  · rw [if_neg (by omega)]
    by_cases h2 : 2 ≤ l.length
    · have hs := sealed_right hB 0 rfl (by omega)
      have hsf : sum_Seal.f l 0 = some (sealed l 0, 0) := seal_f hB hl 0 rfl (by omega)
      have hsl := sealed_length l 0
      rw [hsf]
      simp only [Option.bind_some, if_true]
      by_cases c1 : a < 0
      · rw [if_pos c1]
      · rw [if_neg c1]
        by_cases c2 : a ≥ ((sealed l 0).length : Int)
        · rw [if_pos c2]
        · rw [if_neg c2]
          by_cases c3 : b = 0
          · rw [if_pos c3]
          · rw [if_neg c3, if_pos (by omega), if_pos (by omega)]
            obtain ⟨i, rfl⟩ := Int.eq_ofNat_of_zero_le (show 0 ≤ a by omega)
            have hi : i < (sealed l 0).length := by omega
            have hx := sealed_ok hB 0 _ (List.getElem_mem hi)
            rw [rd_at _ i hi, Int.toNat_natCast]
            obtain ⟨hr, hne⟩ := xor_byte hx hb2 c3
            generalize Go.bits .xor .u8 (sealed l 0)[i] b = y at *
            have hok := okB_set (sealed_ok hB 0) i hr.1 hr.2
            rw [right_f (by simp [sealed_length]; omega) hok]
            have hv := vsum_set (sealed l 0) i y hi
            have hv0 := vsum_nonneg _ hok
            have hof : ofF ((sealed l 0).set i y) ≠ 0 := by
              rw [ofF_vsum _ hok]
              rw [hv] at hv0 ⊢
              obtain ⟨_, hmod, hpos⟩ := hs
              generalize vsum (sealed l 0) = v at *
              generalize (sealed l 0)[i] = x at *
              have hw : wt i = 256 ∨ wt i = 1 := by unfold wt; split <;> simp
              have hd : y - x ≠ 0 := by omega
              unfold norm
              rcases hw with hw | hw <;> rw [hw] at hv0 ⊢ <;> split <;> omega
            simp [hof]
    · have hsb := seal_bad (a := 0) hl (by omega) (by omega) (fun h => by omega)
      rw [hsb]
      simp
      omega
  · rw [if_pos (by omega)]
end Go.Proofs.Ytdcildmjmbbmeaa.Pure
