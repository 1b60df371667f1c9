/- The reference's Digits and Number, told plainly: the bytes of a number, and the number of bytes. No program here. -/
import Derived.Test.YtkjfemkmooepnaaQ
import Derived.Test.YtkjfemkmooepnaaPut
namespace Go.Proofs.Ytkjfemkmooepnaa.Ref
open Go.RowKit Go.Proofs.YtkjfemkmooepnaaW.PrintWords Go.Proofs.YtkjfemkmooepnaaW.PrintLast Go.Proofs.YtkjfemkmooepnaaW.PrintMore Go.Proofs.Ytkjfemkmooepnaa.Oct Go.Proofs.Ytkjfemkmooepnaa.Q

theorem wrap64_id {x : Int} (h0 : -9223372036854775808 ≤ x) (h1 : x ≤ 9223372036854775807) : wrap64 x = x := by unfold wrap64; omega
theorem wrapu64 (x : Int) : IntKind.u64.wrap x = x % 18446744073709551616 := by rw [IntKind.wrap_u64]
theorem wrapu64_id {x : Int} (h0 : 0 ≤ x) (h1 : x < 18446744073709551616) : IntKind.u64.wrap x = x := by rw [wrapu64]; omega
theorem rd_at (l : List Int) (j : Nat) (h : j < l.length) : rd l (j : Int) = l[j] := by simp [rd, List.getD_eq_getElem?_getD, List.getElem?_eq_getElem h]

/-- The bytes of u, the lowest first. -/
def lows (u : Int) (n : Nat) : List Int := (List.range n).map (digit u)
theorem lows_length (u : Int) (n : Nat) : (lows u n).length = n := by simp [lows]
theorem lows_succ (u : Int) (n : Nat) : lows u (n + 1) = lows u n ++ [digit u n] := by simp [lows, List.range_succ]
theorem lows_get (u : Int) (n j : Nat) (h : j < (lows u n).length) : (lows u n)[j] = digit u j := by simp [lows]
theorem pow256 (i : Nat) : (2 : Int) ^ (8 * i) = 256 ^ i := by rw [Int.pow_mul]; rfl
theorem pow256_pos (i : Nat) : (0 : Int) < 256 ^ i := Int.pow_pos (by decide)

theorem digit_range (u : Int) (i : Nat) : 0 ≤ digit u i ∧ digit u i ≤ 255 := by unfold digit; omega
theorem digits_mem (u : Int) : ∀ (n : Nat) (x : Int), x ∈ digits u n → 0 ≤ x ∧ x ≤ 255
  | 0, x, h => by simp [digits] at h
  | n + 1, x, h => by
    simp only [digits, List.mem_cons] at h
    rcases h with rfl | h
    · exact digit_range u n
    · exact digits_mem u n x h

theorem l1_ev (u : Int) (n : Nat) (hn : n ≤ 8) : ∀ (j : Nat) (out : List Int), j ≤ n → out.length + j ≤ 8 → Ev (fun k => viaductref01_Digits.l1 k (lows u n) out ((j : Int) - 1)) (out ++ digits u j)
  | 0, out, _, _ => by
    refine Ev.step (f := fun _ => some out) (fun k => ?_) (by simpa [digits] using Ev.now out)
    simp only [viaductref01_Digits.l1]
    rw [if_neg (by omega)]
  | j + 1, out, hj, ho => by
    have ih := l1_ev u n hn j (out ++ [digit u j]) (by omega) (by simp; omega)
    refine Ev.step (f := fun k => viaductref01_Digits.l1 k (lows u n) (out ++ [digit u j]) ((j : Int) - 1)) (fun k => ?_) (by simpa [digits] using ih)
    have hl : j < (lows u n).length := by rw [lows_length]; omega
    have e1 : ((j + 1 : Nat) : Int) - 1 = (j : Int) := by omega
    simp only [viaductref01_Digits.l1]
    rw [e1, if_pos (by omega), if_pos (by omega), if_pos (by omega), if_pos (by omega), rd_at _ _ hl, lows_get, wrap64_id (by omega) (by omega)]

theorem digit_step (u : Int) (h0 : 0 ≤ u) (i : Nat) : (Int.tmod (u / 256 ^ i) 256) % 256 = digit u i ∧ Int.tdiv (u / 256 ^ i) 256 = u / 256 ^ (i + 1) := by
  have hp := pow256_pos i
  have hq : 0 ≤ u / 256 ^ i := Int.ediv_nonneg h0 (by omega)
  constructor
  · rw [Int.tmod_eq_emod_of_nonneg hq]
    unfold digit
    rw [pow256]
    omega
  · rw [Int.tdiv_eq_ediv_of_nonneg hq, Int.ediv_ediv_of_nonneg (by omega), Int.pow_succ]

theorem l0_ev (u : Int) (h0 : 0 ≤ u) (hu : u < 18446744073709551616) (n : Nat) (hn : n ≤ 8) : ∀ (m i : Nat), m + i = n → Ev (fun k => viaductref01_Digits.l0 k (n : Int) (u / 256 ^ i) (lows u i) (i : Int)) (digits u n)
  | 0, i, hi => by
    obtain rfl : i = n := by omega
    have ih := l1_ev u i hn i [] (Nat.le_refl _) (by simpa using hn)
    refine Ev.step (f := fun k => viaductref01_Digits.l1 k (lows u i) [] ((i : Int) - 1)) (fun k => ?_) (by simpa using ih)
    simp only [viaductref01_Digits.l0]
    rw [if_neg (by omega), wrap64_id (by omega) (by omega)]
  | m + 1, i, hi => by
    have ih := l0_ev u h0 hu n hn m (i + 1) (by omega)
    refine Ev.step (f := fun k => viaductref01_Digits.l0 k (n : Int) (u / 256 ^ (i + 1)) (lows u (i + 1)) ((i + 1 : Nat) : Int)) (fun k => ?_) ih
    obtain ⟨d1, d2⟩ := digit_step u h0 i
    have hb : 0 ≤ u / 256 ^ (i + 1) := Int.ediv_nonneg h0 (by have := pow256_pos (i + 1); omega)
    have hb2 : u / 256 ^ (i + 1) ≤ u := Int.ediv_le_self _ h0
    simp only [viaductref01_Digits.l0]
    rw [if_pos (by omega), if_pos (by rw [lows_length]; omega), d1, d2, wrapu64_id hb (by omega), wrap64_id (by omega) (by omega), lows_succ]
    rfl

theorem digits_ev (u : Int) (h0 : 0 ≤ u) (hu : u < 18446744073709551616) (n : Nat) (hn : n ≤ 8) : Ev (fun k => viaductref01_Digits.f k (n : Int) u) (digits u n) := by
  have h := l0_ev u h0 hu n hn n 0 (by omega)
  simpa [viaductref01_Digits.f, lows] using h

/-- What bytes tell, of any number. -/
def numB (l : List Int) : Int := l.foldl (fun a c => a * 256 + c) 0
theorem numB_snoc (l : List Int) (c : Int) : numB (l ++ [c]) = numB l * 256 + c := by simp [numB, List.foldl_append]
def Bytes (l : List Int) : Prop := ∀ x ∈ l, 0 ≤ x ∧ x ≤ 255
theorem Bytes.take {l : List Int} (h : Bytes l) (k : Nat) : Bytes (l.take k) := fun x hx => h x (List.mem_of_mem_take hx)
theorem Bytes.drop {l : List Int} (h : Bytes l) (k : Nat) : Bytes (l.drop k) := fun x hx => h x (List.mem_of_mem_drop hx)
theorem Bytes.append {l m : List Int} (h : Bytes l) (h' : Bytes m) : Bytes (l ++ m) := fun x hx => (List.mem_append.1 hx).elim (h x) (h' x)
theorem foldl_range : ∀ (l : List Int) (a : Int) (n : Nat), Bytes l → 0 ≤ a → a < 256 ^ n → 0 ≤ l.foldl (fun a c => a * 256 + c) a ∧ l.foldl (fun a c => a * 256 + c) a < 256 ^ (n + l.length)
  | [], a, n, _, h0, h1 => by simpa using ⟨h0, h1⟩
  | c :: l, a, n, hb, h0, h1 => by
    have hc := hb c (by simp)
    have h := foldl_range l (a * 256 + c) (n + 1) (fun x hx => hb x (by simp [hx])) (by omega) (by rw [Int.pow_succ]; omega)
    simp only [List.foldl_cons, List.length_cons]
    rw [show n + (l.length + 1) = n + 1 + l.length by omega]
    exact h
theorem numB_range (l : List Int) (h : Bytes l) : 0 ≤ numB l ∧ numB l < 256 ^ l.length := by
  have := foldl_range l 0 0 h (by omega) (by simp)
  simpa [numB] using this
theorem pow256_le {n : Nat} (h : n ≤ 8) : (256 : Int) ^ n ≤ 18446744073709551616 := by
  have : n = 0 ∨ n = 1 ∨ n = 2 ∨ n = 3 ∨ n = 4 ∨ n = 5 ∨ n = 6 ∨ n = 7 ∨ n = 8 := by omega
  rcases this with rfl | rfl | rfl | rfl | rfl | rfl | rfl | rfl | rfl <;> decide

theorem num_ev (l : List Int) (hb : Bytes l) (hl : l.length ≤ 8) : ∀ (m i : Nat), m + i = l.length → Ev (fun k => viaductref01_Number.l0 k l (numB (l.take i)) (i : Int)) (numB l)
  | 0, i, hi => by
    obtain rfl : i = l.length := by omega
    refine Ev.step (f := fun _ => some (numB l)) (fun k => ?_) (Ev.now _)
    simp only [viaductref01_Number.l0]
    rw [if_neg (by omega), List.take_length]
  | m + 1, i, hi => by
    have ih := num_ev l hb hl m (i + 1) (by omega)
    refine Ev.step (f := fun k => viaductref01_Number.l0 k l (numB (l.take (i + 1))) ((i + 1 : Nat) : Int)) (fun k => ?_) ih
    have hlt : i < l.length := by omega
    have hr := numB_range (l.take i) (hb.take i)
    rw [List.length_take, Nat.min_eq_left (by omega)] at hr
    have hr' := numB_range (l.take (i + 1)) (hb.take (i + 1))
    rw [List.length_take, Nat.min_eq_left (by omega)] at hr'
    have hp := pow256_le (n := i + 1) (by omega)
    have hs : numB (l.take (i + 1)) = numB (l.take i) * 256 + l[i] := by rw [List.take_succ_eq_append_getElem hlt, numB_snoc]
    have hc := hb l[i] (List.getElem_mem hlt)
    simp only [viaductref01_Number.l0]
    rw [if_pos (by omega), if_pos (by omega), rd_at l i hlt, wrapu64_id (x := numB (List.take i l) * 256) (by omega) (by omega), wrapu64_id (x := l[i]) (by omega) (by omega), wrapu64_id (by omega) (by omega), wrap64_id (by omega) (by omega), hs]
    rfl
theorem number_ev (l : List Int) (hb : Bytes l) (hl : l.length ≤ 8) : Ev (fun k => viaductref01_Number.f k l) (numB l) := by
  have h := num_ev l hb hl l.length 0 (by omega)
  simpa [viaductref01_Number.f, numB] using h

theorem foldl_shift (l : List Int) (a : Int) : l.foldl (fun a c => a * 256 + c) a = a * 256 ^ l.length + l.foldl (fun a c => a * 256 + c) 0 := by
  induction l generalizing a with
  | nil => simp
  | cons c l ih =>
    simp only [List.foldl_cons, List.length_cons]
    rw [ih, ih (0 * 256 + c), Int.pow_succ]
    grind
theorem numB_append (l m : List Int) : numB (l ++ m) = numB l * 256 ^ m.length + numB m := by
  unfold numB
  rw [List.foldl_append, foldl_shift]
theorem mod_step (u : Int) (n : Nat) : u / 256 ^ n % 256 * 256 ^ n + u % 256 ^ n = u % (256 ^ n * 256) := by
  have hp := pow256_pos n
  have h1 := Int.emod_add_mul_ediv u (256 ^ n)
  have h2 := Int.emod_add_mul_ediv (u / 256 ^ n) 256
  have h3 := Int.emod_add_mul_ediv u (256 ^ n * 256)
  rw [← Int.ediv_ediv_of_nonneg (by omega)] at h3
  grind
theorem numB_digits (u : Int) (h0 : 0 ≤ u) : ∀ n, numB (digits u n) = u % 256 ^ n
  | 0 => by simp [digits, numB, Int.emod_one]
  | n + 1 => by
    have ih := numB_digits u h0 n
    have e : digits u (n + 1) = [digit u n] ++ digits u n := rfl
    rw [e, numB_append, ih, digits_length]
    have : numB [digit u n] = digit u n := by simp [numB]
    rw [this]
    unfold digit
    rw [pow256, Int.pow_succ]
    exact mod_step u n
end Go.Proofs.Ytkjfemkmooepnaa.Ref
