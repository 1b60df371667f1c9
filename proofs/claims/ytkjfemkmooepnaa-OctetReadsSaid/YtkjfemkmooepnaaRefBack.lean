/- Numbers one behind the other, and back. No program here. -/
import Derived.Test.YtkjfemkmooepnaaRef01
namespace Go.Proofs.Ytkjfemkmooepnaa.Ref
open Go.RowKit Go.Proofs.YtkjfemkmooepnaaW.PrintWords Go.Proofs.YtkjfemkmooepnaaW.PrintLast Go.Proofs.YtkjfemkmooepnaaW.PrintMore Go.Proofs.Ytkjfemkmooepnaa.Oct
set_option linter.unusedVariables false

theorem or_step {u c : Int} (h0 : 0 ≤ u) (h1 : u * 256 + c < 18446744073709551616) (h2 : 0 ≤ c) (h3 : c ≤ 255) : Go.bits .or .u64 (IntKind.u64.wrap (u * 256)) (IntKind.u64.wrap c) = u * 256 + c := by
  have e1 : IntKind.u64.wrap (u * 256) = u * 256 := by rw [IntKind.wrap_u64]; omega
  have e2 : IntKind.u64.wrap c = c := by rw [IntKind.wrap_u64]; omega
  rw [e1, e2, u64_or _ _ (by omega) (by omega) (by omega) (by omega)]
  obtain ⟨a, rfl⟩ := Int.eq_ofNat_of_zero_le h0
  obtain ⟨b, rfl⟩ := Int.eq_ofNat_of_zero_le h2
  have e3 : ((a : Int) * 256).toNat = a <<< 8 := by rw [Nat.shiftLeft_eq]; omega
  rw [e3, Int.toNat_natCast, ← Nat.shiftLeft_add_eq_or_of_lt (by omega : b < 2 ^ 8), Nat.shiftLeft_eq]
  omega
theorem uintF_numB (l : List Int) (hb : Bytes l) (hl : l.length ≤ 8) : ∀ k, k ≤ l.length → uintF (l.take k) = numB (l.take k)
  | 0, _ => rfl
  | k + 1, hk => by
    have hlt : k < l.length := hk
    have ih := uintF_numB l hb hl k (by omega)
    have hr := numB_range (l.take k) (hb.take k)
    have hr' := numB_range (l.take (k + 1)) (hb.take (k + 1))
    rw [List.length_take, Nat.min_eq_left (by omega)] at hr'
    have hp := pow256_le (n := k + 1) (by omega)
    have hs : numB (l.take (k + 1)) = numB (l.take k) * 256 + l[k] := by rw [List.take_succ_eq_append_getElem hlt, numB_snoc]
    have hc := hb l[k] (List.getElem_mem hlt)
    rw [uintF_snoc l k hlt, ih, rd_at l k hlt, hs, or_step hr.1 (by omega) hc.1 hc.2]
theorem uintF_digits {u : Int} {n : Int} (h0 : 0 ≤ u) (hu : u < 18446744073709551616) (h1 : 1 ≤ n) (h8 : n ≤ 8) (hs : n < 8 → u / 2 ^ (8 * n).toNat = 0) : uintF (digits u n.toNat) = u := by
  have hb : Bytes (digits u n.toNat) := digits_mem u n.toNat
  have hl := digits_length u n.toNat
  have h := uintF_numB _ hb (by omega) (digits u n.toNat).length (Nat.le_refl _)
  rw [List.take_length] at h
  rw [h, numB_digits u h0]
  by_cases hn : n = 8
  · subst hn
    have e : (256 : Int) ^ (8 : Int).toNat = 18446744073709551616 := by decide
    rw [e]
    omega
  · have h2 := hs (by omega)
    have e : (2 : Int) ^ (8 * n).toNat = 256 ^ n.toNat := by rw [show (8 * n).toNat = 8 * n.toNat by omega, pow256]
    rw [e] at h2
    have hp := pow256_pos n.toNat
    have h3 := Int.emod_add_mul_ediv u (256 ^ n.toNat)
    rw [h2] at h3
    simpa using h3

/-- What was put: a number and how wide it is. -/
def fitsN (u n : Int) : Prop := 0 ≤ u ∧ u < 18446744073709551616 ∧ 1 ≤ n ∧ n ≤ 8 ∧ (n < 8 → u / 2 ^ (8 * n).toNat = 0)
def catB : List Int → List Int → List Int
  | u :: P, n :: W => digits u n.toNat ++ catB P W
  | _, _ => []
def GoodN : List Int → List Int → Prop
  | u :: P, n :: W => fitsN u n ∧ GoodN P W
  | [], [] => True
  | _, _ => False
theorem GoodN.len : ∀ {P W : List Int}, GoodN P W → W.length = P.length
  | [], [], _ => rfl
  | u :: P, n :: W, h => by simp [GoodN.len h.2]
theorem GoodN.snoc : ∀ {P W : List Int} {u n : Int}, GoodN P W → fitsN u n → GoodN (P ++ [u]) (W ++ [n]) ∧ catB (P ++ [u]) (W ++ [n]) = catB P W ++ digits u n.toNat
  | [], [], u, n, _, h => ⟨⟨h, trivial⟩, by simp [catB]⟩
  | a :: P, b :: W, u, n, h, hf => by
    obtain ⟨h1, h2⟩ := GoodN.snoc h.2 hf
    exact ⟨⟨h.1, h1⟩, by simp only [List.cons_append, catB, h2, List.append_assoc]⟩
theorem catB_len : ∀ {P W : List Int}, GoodN P W → (catB P W).length ≤ 8 * P.length
  | [], [], _ => by simp [catB]
  | u :: P, n :: W, h => by
    have ih := catB_len h.2
    have := h.1.2.2.2.1
    rw [catB, List.length_append, digits_length, List.length_cons]
    omega
theorem putE_fits {u n : Int} (h0 : 0 ≤ u) (hu : u < 18446744073709551616) (h : putE n u = 0) : fitsN u n ∧ ∀ l, putB l n u = l ++ digits u n.toNat := by
  refine ⟨?_, fun l => by unfold putB; rw [if_pos h]⟩
  unfold putE at h
  split at h
  · rename_i h1
    split at h
    · cases h
    · rename_i h2
      exact ⟨h0, hu, h1.1, h1.2, fun h8 => Classical.not_not.1 (fun h3 => h2 ⟨h8, h3⟩)⟩
  · cases h
theorem take_digits {u n : Int} (h : fitsN u n) (r : List Int) : takeO (digits u n.toNat ++ r) 0 n (ub n) = digits u n.toNat ∧ takeL (digits u n.toNat ++ r) 0 n (ub n) = r ∧ takeE (digits u n.toNat ++ r) 0 n (ub n) = 0 := by
  obtain ⟨h0, hu, h1, h8, _⟩ := h
  have hl := digits_length u n.toNat
  have hub : ub n = true := by simp [ub, h1, h8]
  have hle : n ≤ ((digits u n.toNat ++ r).length : Int) := by rw [List.length_append, hl]; omega
  have hc : (0 : Int) = 0 ∧ ub n = true ∧ n ≤ ((digits u n.toNat ++ r).length : Int) := ⟨rfl, hub, hle⟩
  refine ⟨?_, ?_, ?_⟩
  · unfold takeO; rw [if_pos hc, List.take_append_of_le_length (by omega), List.take_of_length_le (by omega)]
  · unfold takeL; rw [if_pos hc, List.drop_append_of_le_length (by omega), List.drop_of_length_le (by omega), List.nil_append]
  · unfold takeE; rw [if_pos rfl, if_pos hub, if_pos hle]
theorem GoodN.at : ∀ {P W : List Int} (i : Nat) (hi : i < P.length) (hw : i < W.length), GoodN P W → fitsN P[i] W[i] ∧ catB (P.drop i) (W.drop i) = digits P[i] W[i].toNat ++ catB (P.drop (i + 1)) (W.drop (i + 1))
  | u :: P, n :: W, 0, _, _, h => ⟨h.1, rfl⟩
  | u :: P, n :: W, i + 1, hi, hw, h => GoodN.at (P := P) (W := W) i (by simpa using hi) (by simpa using hw) h.2
end Go.Proofs.Ytkjfemkmooepnaa.Ref
