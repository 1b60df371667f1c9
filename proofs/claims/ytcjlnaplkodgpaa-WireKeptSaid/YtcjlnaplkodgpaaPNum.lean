/- Numbers as bytes: plain. -/
import Derived.Test.YtcjlnaplkodgpaaCmLib2
import Derived.Laws.BitsAllLaws
namespace Go.Proofs.Ytcjlnaplkodgpaa.Cm
open Go.RowKit
set_option linter.unusedVariables false
set_option linter.unusedSimpArgs false
def digit (u : Int) (i : Nat) : Int := u / (256 ^ i : Int) % 256
def digits : Nat → Int → List Int
  | 0, _ => []
  | n + 1, u => digit u n :: digits n u
def num (l : List Int) : Int := l.foldl (fun a d => a * 256 + d) 0
theorem wf_u8 {n : Int} (h : (Lit.int .u8 n).wf = true) : 0 ≤ n ∧ n ≤ 255 := by
  simp only [Lit.wf, Bool.and_eq_true, decide_eq_true_eq] at h
  have h1 : IntKind.u8.min = 0 := by decide
  have h2 : IntKind.u8.max = 255 := by decide
  rw [h1, h2] at h; exact h
theorem wf_i64 {n : Int} (h : (Lit.int .i64 n).wf = true) : -9223372036854775808 ≤ n ∧ n ≤ 9223372036854775807 := by
  simp only [Lit.wf, Bool.and_eq_true, decide_eq_true_eq] at h
  have h1 : IntKind.i64.min = -9223372036854775808 := by decide
  have h2 : IntKind.i64.max = 9223372036854775807 := by decide
  rw [h1, h2] at h; exact h
theorem wf_u64 {n : Int} (h : (Lit.int .u64 n).wf = true) : 0 ≤ n ∧ n ≤ 18446744073709551615 := by
  simp only [Lit.wf, Bool.and_eq_true, decide_eq_true_eq] at h
  have h1 : IntKind.u64.min = 0 := by decide
  have h2 : IntKind.u64.max = 18446744073709551615 := by decide
  rw [h1, h2] at h; exact h
theorem wf_u32 {n : Int} (h : (Lit.int .u32 n).wf = true) : 0 ≤ n ∧ n ≤ 4294967295 := by
  simp only [Lit.wf, Bool.and_eq_true, decide_eq_true_eq] at h
  have h1 : IntKind.u32.min = 0 := by decide
  have h2 : IntKind.u32.max = 4294967295 := by decide
  rw [h1, h2] at h; exact h
theorem wf_i32 {n : Int} (h : (Lit.int .i32 n).wf = true) : -2147483648 ≤ n ∧ n ≤ 2147483647 := by
  simp only [Lit.wf, Bool.and_eq_true, decide_eq_true_eq] at h
  have h1 : IntKind.i32.min = -2147483648 := by decide
  have h2 : IntKind.i32.max = 2147483647 := by decide
  rw [h1, h2] at h; exact h
/-- Bytes. -/
def Octs (l : List Int) : Prop := ∀ d ∈ l, 0 ≤ d ∧ d < 256
theorem digits_length : ∀ (n : Nat) (u : Int), (digits n u).length = n
  | 0, _ => rfl
  | n + 1, u => by simp [digits, digits_length n u]
theorem digit_octet (u : Int) (i : Nat) : 0 ≤ digit u i ∧ digit u i < 256 := ⟨Int.emod_nonneg _ (by decide), Int.emod_lt_of_pos _ (by decide)⟩
theorem digits_octs : ∀ (n : Nat) (u : Int), Octs (digits n u)
  | 0, _ => by simp [digits, Octs]
  | n + 1, u => by
    intro d hd
    rcases List.mem_cons.1 hd with rfl | hd
    · exact digit_octet u n
    · exact digits_octs n u d hd
theorem digits_get : ∀ (n : Nat) (u : Int) (k : Nat), k < n → (digits n u)[k]? = some (digit u (n - 1 - k))
  | 0, _, k, h => by omega
  | n + 1, u, 0, h => by simp [digits]
  | n + 1, u, k + 1, h => by
    simp only [digits, List.getElem?_cons_succ]
    rw [digits_get n u k (by omega)]
    congr 2; omega
theorem num_snoc (l : List Int) (d : Int) : num (l ++ [d]) = num l * 256 + d := by simp [num, List.foldl_append]
theorem num_from (l : List Int) : ∀ a : Int, l.foldl (fun a d => a * 256 + d) a = a * (256 ^ l.length : Int) + num l := by
  induction l with
  | nil => intro a; simp [num]
  | cons d r ih =>
    intro a
    simp only [List.foldl_cons, List.length_cons, num]
    rw [ih (a * 256 + d), ih (0 * 256 + d), Int.pow_succ, Int.add_mul, Int.add_mul, Int.mul_assoc]
    have : (256 : Int) * 256 ^ r.length = 256 ^ r.length * 256 := Int.mul_comm _ _
    rw [this]; omega
theorem num_cons (d : Int) (r : List Int) : num (d :: r) = d * (256 ^ r.length : Int) + num r := by
  show (d :: r).foldl _ 0 = _
  rw [List.foldl_cons, num_from]; simp
theorem pow_pos256 (n : Nat) : (0 : Int) < 256 ^ n := Int.pow_pos (by decide)
theorem pow256_le8 {k : Nat} (h : k ≤ 8) : (256 : Int) ^ k ≤ 18446744073709551616 := by
  have : k = 0 ∨ k = 1 ∨ k = 2 ∨ k = 3 ∨ k = 4 ∨ k = 5 ∨ k = 6 ∨ k = 7 ∨ k = 8 := by omega
  rcases this with rfl | rfl | rfl | rfl | rfl | rfl | rfl | rfl | rfl <;> decide
theorem num_bound : ∀ {l : List Int}, Octs l → 0 ≤ num l ∧ num l < 256 ^ l.length
  | [], _ => by simp [num]
  | d :: r, h => by
    obtain ⟨h1, h2⟩ := num_bound (l := r) (fun x hx => h x (List.mem_cons_of_mem _ hx))
    obtain ⟨h3, h4⟩ := h d List.mem_cons_self
    have hp := pow_pos256 r.length
    rw [num_cons, List.length_cons, Int.pow_succ]
    have h5 : d * (256 ^ r.length : Int) ≤ 255 * 256 ^ r.length := Int.mul_le_mul_of_nonneg_right (by omega) (by omega)
    have h6 : 0 ≤ d * (256 ^ r.length : Int) := Int.mul_nonneg h3 (by omega)
    omega
theorem num_digits_mod : ∀ (n : Nat) (u : Int), num (digits n u) = u % 256 ^ n
  | 0, u => by simp [digits, num, Int.emod_one]
  | n + 1, u => by
    rw [digits, num_cons, digits_length, num_digits_mod n u, digit, Int.pow_succ]
    have hp := pow_pos256 n
    have h1 := Int.mul_ediv_add_emod u (256 ^ n * 256)
    have h2 := Int.mul_ediv_add_emod u (256 ^ n)
    have h3 := Int.mul_ediv_add_emod (u / 256 ^ n) 256
    have h4 : u / 256 ^ n / 256 = u / (256 ^ n * 256) := Int.ediv_ediv_of_nonneg (by omega)
    rw [h4] at h3
    have h5 : u / 256 ^ n % 256 * 256 ^ n = 256 ^ n * (u / 256 ^ n) - 256 ^ n * 256 * (u / (256 ^ n * 256)) := by
      have : u / 256 ^ n % 256 = u / 256 ^ n - 256 * (u / (256 ^ n * 256)) := by omega
      rw [this, Int.sub_mul, Int.mul_comm (u / 256 ^ n), Int.mul_comm (256 * (u / (256 ^ n * 256))), Int.mul_assoc]
    rw [h5]; omega
theorem num_digits {n : Nat} {u : Int} (h0 : 0 ≤ u) (h1 : u < 256 ^ n) : num (digits n u) = u := by
  rw [num_digits_mod, Int.emod_eq_of_lt h0 h1]
theorem digits_add : ∀ (n m : Nat) (x c : Int), n ≤ m → digits n (c * 256 ^ m + x) = digits n x
  | 0, _, _, _, _ => rfl
  | n + 1, m, x, c, h => by
    simp only [digits]
    rw [digits_add n m x c (by omega)]
    congr 1
    simp only [digit]
    obtain ⟨k, rfl⟩ : ∃ k, m = k + 1 + n := ⟨m - n - 1, by omega⟩
    have hp := pow_pos256 n
    have e : c * 256 ^ (k + 1 + n) + x = x + (c * 256 ^ (k + 1)) * 256 ^ n := by rw [Int.pow_add, ← Int.mul_assoc]; omega
    rw [e, Int.add_mul_ediv_right _ _ (by omega), Int.pow_succ, ← Int.mul_assoc, Int.add_mul_emod_self_right]
theorem digits_num : ∀ {l : List Int}, Octs l → digits l.length (num l) = l
  | [], _ => rfl
  | d :: r, h => by
    have hr : Octs r := fun x hx => h x (List.mem_cons_of_mem _ hx)
    obtain ⟨h1, h2⟩ := num_bound hr
    obtain ⟨h3, h4⟩ := h d List.mem_cons_self
    have hp := pow_pos256 r.length
    rw [num_cons, List.length_cons, digits, digits_add _ _ _ _ (Nat.le_refl _), digits_num hr]
    congr 1
    simp only [digit]
    rw [Int.add_comm, Int.add_mul_ediv_right _ _ (by omega), Int.ediv_eq_zero_of_lt h1 h2, Int.zero_add, Int.emod_eq_of_lt h3 h4]
theorem or_step {u c : Int} (h0 : 0 ≤ u) (h1 : u * 256 + c < 18446744073709551616) (h2 : 0 ≤ c) (h3 : c ≤ 255) : Go.bits .or .u64 (IntKind.u64.wrap (u * 256)) (IntKind.u64.wrap c) = u * 256 + c := by
  obtain ⟨a, rfl⟩ := Int.eq_ofNat_of_zero_le h0
  obtain ⟨b, rfl⟩ := Int.eq_ofNat_of_zero_le h2
  rw [wrap_u64 (by omega) (by omega), wrap_u64 (by omega) (by omega)]
  have : ((a : Int) * 256) = ((a * 256 : Nat) : Int) := by omega
  rw [this, u64_or_nat _ _ (by omega) (by omega)]
  have h5 : a * 256 ||| b = a * 256 + b := by
    have := Nat.two_pow_add_eq_or_of_lt (i := 8) (b := b) (by omega) a
    rw [show (256 : Nat) = 2 ^ 8 from rfl, Nat.mul_comm a, ← this]
  rw [h5]; omega
theorem Octs.take {l : List Int} (h : Octs l) (n : Nat) : Octs (l.take n) := fun d hd => h d (List.mem_of_mem_take hd)
theorem Octs.drop {l : List Int} (h : Octs l) (n : Nat) : Octs (l.drop n) := fun d hd => h d (List.mem_of_mem_drop hd)
theorem Octs.append {l m : List Int} (h : Octs l) (k : Octs m) : Octs (l ++ m) := fun d hd => by
  rcases List.mem_append.1 hd with hd | hd
  · exact h d hd
  · exact k d hd
theorem bytesD_take (l : List Int) (n : Nat) : (bytesD l).take n = bytesD (l.take n) := by simp [bytesD, List.map_take]
theorem bytesD_drop (l : List Int) (n : Nat) : (bytesD l).drop n = bytesD (l.drop n) := by simp [bytesD, List.map_drop]
theorem bytesD_append (l m : List Int) : bytesD (l ++ m) = bytesD l ++ bytesD m := by simp [bytesD]
theorem bytesD_get {l : List Int} {i : Nat} (h : i < l.length) : (bytesD l)[i]? = some [.sc (.int .u8 l[i])] := by
  unfold bytesD; rw [List.getElem?_map, List.getElem?_eq_getElem h]; rfl
theorem num_take {l : List Int} {i : Nat} (h : i < l.length) : num (l.take (i + 1)) = num (l.take i) * 256 + l[i] := by
  rw [List.take_add_one, List.getElem?_eq_getElem h, Option.toList_some, num_snoc]
end Go.Proofs.Ytcjlnaplkodgpaa.Cm
