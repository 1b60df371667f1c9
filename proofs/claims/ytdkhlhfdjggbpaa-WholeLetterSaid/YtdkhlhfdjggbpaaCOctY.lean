/- Numbers as bytes: plain. Package octet, and the document's Digits and Number. Package octet's reader, and the document's Digits and Number. -/
import Derived.Test.YtdkhlhfdjggbpaaCmYl
import Derived.Laws.BitsAllLaws
namespace Go.Proofs.Ytdkhlhfdjggbpaa.Cm
open Go.RowKit
set_option linter.unusedVariables false
set_option linter.unusedSimpArgs false
set_option maxRecDepth 20000
set_option maxHeartbeats 8000000
def digit (u : Int) (i : Nat) : Int := u / (256 ^ i : Int) % 256
def digits : Nat → Int → List Int
  | 0, _ => []
  | n + 1, u => digit u n :: digits n u
def num (l : List Int) : Int := l.foldl (fun a d => a * 256 + d) 0
theorem wf_u8 {n : Int} (h : (Lit.int .u8 n).wf = true) : 0 ≤ n ∧ n ≤ 255 := by
  simp only [Lit.wf, Bool.and_eq_true, decide_eq_true_eq] at h
  have h1 : IntKind.u8.min = 0 := by decide
  have h2 : IntKind.u8.max = 255 := by decide
  rw [h1, h2] at h; exact h
theorem wf_i64 {n : Int} (h : (Lit.int .i64 n).wf = true) : -9223372036854775808 ≤ n ∧ n ≤ 9223372036854775807 := by
  simp only [Lit.wf, Bool.and_eq_true, decide_eq_true_eq] at h
  have h1 : IntKind.i64.min = -9223372036854775808 := by decide
  have h2 : IntKind.i64.max = 9223372036854775807 := by decide
  rw [h1, h2] at h; exact h
theorem wf_u64 {n : Int} (h : (Lit.int .u64 n).wf = true) : 0 ≤ n ∧ n ≤ 18446744073709551615 := by
  simp only [Lit.wf, Bool.and_eq_true, decide_eq_true_eq] at h
  have h1 : IntKind.u64.min = 0 := by decide
  have h2 : IntKind.u64.max = 18446744073709551615 := by decide
  rw [h1, h2] at h; exact h
theorem wf_u32 {n : Int} (h : (Lit.int .u32 n).wf = true) : 0 ≤ n ∧ n ≤ 4294967295 := by
  simp only [Lit.wf, Bool.and_eq_true, decide_eq_true_eq] at h
  have h1 : IntKind.u32.min = 0 := by decide
  have h2 : IntKind.u32.max = 4294967295 := by decide
  rw [h1, h2] at h; exact h
/-- Bytes. -/
def Octs (l : List Int) : Prop := ∀ d ∈ l, 0 ≤ d ∧ d < 256
theorem digits_length : ∀ (n : Nat) (u : Int), (digits n u).length = n
  | 0, _ => rfl
  | n + 1, u => by simp [digits, digits_length n u]
theorem digit_octet (u : Int) (i : Nat) : 0 ≤ digit u i ∧ digit u i < 256 := ⟨Int.emod_nonneg _ (by decide), Int.emod_lt_of_pos _ (by decide)⟩
theorem digits_octs : ∀ (n : Nat) (u : Int), Octs (digits n u)
  | 0, _ => by simp [digits, Octs]
  | n + 1, u => by
    intro d hd
    rcases List.mem_cons.1 hd with rfl | hd
    · exact digit_octet u n
    · exact digits_octs n u d hd
theorem digits_get : ∀ (n : Nat) (u : Int) (k : Nat), k < n → (digits n u)[k]? = some (digit u (n - 1 - k))
  | 0, _, k, h => by omega
  | n + 1, u, 0, h => by simp [digits]
  | n + 1, u, k + 1, h => by
    simp only [digits, List.getElem?_cons_succ]
    rw [digits_get n u k (by omega)]
    congr 2; omega
theorem num_snoc (l : List Int) (d : Int) : num (l ++ [d]) = num l * 256 + d := by simp [num, List.foldl_append]
theorem num_from (l : List Int) : ∀ a : Int, l.foldl (fun a d => a * 256 + d) a = a * (256 ^ l.length : Int) + num l := by
  induction l with
  | nil => intro a; simp [num]
  | cons d r ih =>
    intro a
    simp only [List.foldl_cons, List.length_cons, num]
    rw [ih (a * 256 + d), ih (0 * 256 + d), Int.pow_succ, Int.add_mul, Int.add_mul, Int.mul_assoc]
    have : (256 : Int) * 256 ^ r.length = 256 ^ r.length * 256 := Int.mul_comm _ _
    rw [this]; omega
theorem num_cons (d : Int) (r : List Int) : num (d :: r) = d * (256 ^ r.length : Int) + num r := by
  show (d :: r).foldl _ 0 = _
  rw [List.foldl_cons, num_from]; simp
theorem pow_pos256 (n : Nat) : (0 : Int) < 256 ^ n := Int.pow_pos (by decide)
theorem pow256_le8 {k : Nat} (h : k ≤ 8) : (256 : Int) ^ k ≤ 18446744073709551616 := by
  have : k = 0 ∨ k = 1 ∨ k = 2 ∨ k = 3 ∨ k = 4 ∨ k = 5 ∨ k = 6 ∨ k = 7 ∨ k = 8 := by omega
  rcases this with rfl | rfl | rfl | rfl | rfl | rfl | rfl | rfl | rfl <;> decide
theorem num_bound : ∀ {l : List Int}, Octs l → 0 ≤ num l ∧ num l < 256 ^ l.length
  | [], _ => by simp [num]
  | d :: r, h => by
    obtain ⟨h1, h2⟩ := num_bound (l := r) (fun x hx => h x (List.mem_cons_of_mem _ hx))
    obtain ⟨h3, h4⟩ := h d List.mem_cons_self
    have hp := pow_pos256 r.length
    rw [num_cons, List.length_cons, Int.pow_succ]
    have h5 : d * (256 ^ r.length : Int) ≤ 255 * 256 ^ r.length := Int.mul_le_mul_of_nonneg_right (by omega) (by omega)
    have h6 : 0 ≤ d * (256 ^ r.length : Int) := Int.mul_nonneg h3 (by omega)
    omega
theorem num_digits_mod : ∀ (n : Nat) (u : Int), num (digits n u) = u % 256 ^ n
  | 0, u => by simp [digits, num, Int.emod_one]
  | n + 1, u => by
    rw [digits, num_cons, digits_length, num_digits_mod n u, digit, Int.pow_succ]
    have hp := pow_pos256 n
    have h1 := Int.mul_ediv_add_emod u (256 ^ n * 256)
    have h2 := Int.mul_ediv_add_emod u (256 ^ n)
    have h3 := Int.mul_ediv_add_emod (u / 256 ^ n) 256
    have h4 : u / 256 ^ n / 256 = u / (256 ^ n * 256) := Int.ediv_ediv_of_nonneg (by omega)
    rw [h4] at h3
    have h5 : u / 256 ^ n % 256 * 256 ^ n = 256 ^ n * (u / 256 ^ n) - 256 ^ n * 256 * (u / (256 ^ n * 256)) := by
      have : u / 256 ^ n % 256 = u / 256 ^ n - 256 * (u / (256 ^ n * 256)) := by omega
      rw [this, Int.sub_mul, Int.mul_comm (u / 256 ^ n), Int.mul_comm (256 * (u / (256 ^ n * 256))), Int.mul_assoc]
    rw [h5]; omega
theorem num_digits {n : Nat} {u : Int} (h0 : 0 ≤ u) (h1 : u < 256 ^ n) : num (digits n u) = u := by
  rw [num_digits_mod, Int.emod_eq_of_lt h0 h1]
theorem digits_add : ∀ (n m : Nat) (x c : Int), n ≤ m → digits n (c * 256 ^ m + x) = digits n x
  | 0, _, _, _, _ => rfl
  | n + 1, m, x, c, h => by
    simp only [digits]
    rw [digits_add n m x c (by omega)]
    congr 1
    simp only [digit]
    obtain ⟨k, rfl⟩ : ∃ k, m = k + 1 + n := ⟨m - n - 1, by omega⟩
    have hp := pow_pos256 n
    have e : c * 256 ^ (k + 1 + n) + x = x + (c * 256 ^ (k + 1)) * 256 ^ n := by rw [Int.pow_add, ← Int.mul_assoc]; omega
    rw [e, Int.add_mul_ediv_right _ _ (by omega), Int.pow_succ, ← Int.mul_assoc, Int.add_mul_emod_self_right]
theorem digits_num : ∀ {l : List Int}, Octs l → digits l.length (num l) = l
  | [], _ => rfl
  | d :: r, h => by
    have hr : Octs r := fun x hx => h x (List.mem_cons_of_mem _ hx)
    obtain ⟨h1, h2⟩ := num_bound hr
    obtain ⟨h3, h4⟩ := h d List.mem_cons_self
    have hp := pow_pos256 r.length
    rw [num_cons, List.length_cons, digits, digits_add _ _ _ _ (Nat.le_refl _), digits_num hr]
    congr 1
    simp only [digit]
    rw [Int.add_comm, Int.add_mul_ediv_right _ _ (by omega), Int.ediv_eq_zero_of_lt h1 h2, Int.zero_add, Int.emod_eq_of_lt h3 h4]
theorem or_step {u c : Int} (h0 : 0 ≤ u) (h1 : u * 256 + c < 18446744073709551616) (h2 : 0 ≤ c) (h3 : c ≤ 255) : Go.bits .or .u64 (IntKind.u64.wrap (u * 256)) (IntKind.u64.wrap c) = u * 256 + c := by
  obtain ⟨a, rfl⟩ := Int.eq_ofNat_of_zero_le h0
  obtain ⟨b, rfl⟩ := Int.eq_ofNat_of_zero_le h2
  rw [wrap_u64 (by omega) (by omega), wrap_u64 (by omega) (by omega)]
  have : ((a : Int) * 256) = ((a * 256 : Nat) : Int) := by omega
  rw [this, u64_or_nat _ _ (by omega) (by omega)]
  have h5 : a * 256 ||| b = a * 256 + b := by
    have := Nat.two_pow_add_eq_or_of_lt (i := 8) (b := b) (by omega) a
    rw [show (256 : Nat) = 2 ^ 8 from rfl, Nat.mul_comm a, ← this]
  rw [h5]; omega
theorem Octs.take {l : List Int} (h : Octs l) (n : Nat) : Octs (l.take n) := fun d hd => h d (List.mem_of_mem_take hd)
theorem Octs.drop {l : List Int} (h : Octs l) (n : Nat) : Octs (l.drop n) := fun d hd => h d (List.mem_of_mem_drop hd)
theorem Octs.append {l m : List Int} (h : Octs l) (k : Octs m) : Octs (l ++ m) := fun d hd => by
  rcases List.mem_append.1 hd with hd | hd
  · exact h d hd
  · exact k d hd
theorem bytesD_take (l : List Int) (n : Nat) : (bytesD l).take n = bytesD (l.take n) := by simp [bytesD, List.map_take]
theorem bytesD_drop (l : List Int) (n : Nat) : (bytesD l).drop n = bytesD (l.drop n) := by simp [bytesD, List.map_drop]
theorem bytesD_append (l m : List Int) : bytesD (l ++ m) = bytesD l ++ bytesD m := by simp [bytesD]
theorem bytesD_get {l : List Int} {i : Nat} (h : i < l.length) : (bytesD l)[i]? = some [.sc (.int .u8 l[i])] := by
  unfold bytesD; rw [List.getElem?_map, List.getElem?_eq_getElem h]; rfl
theorem num_take {l : List Int} {i : Nat} (h : i < l.length) : num (l.take (i + 1)) = num (l.take i) * 256 + l[i] := by
  rw [List.take_add_one, List.getElem?_eq_getElem h, Option.toList_some, num_snoc]
theorem hold_len {σ : Heap} {d : DV} {l : List Int} (h : Hold σ d 5 (bytesD l)) : lenD T 23 d = some (l.length : Int) := by
  have := h.len (T := T) (ty := 23) rfl
  rwa [bytesD_length] at this
def putI (l : List Int) (n : Nat) (u : Int) (σ0 : Heap) (m : Nat) (ts : List DV) (σ : Heap) : Prop := ∃ k d, m = n + 1 - k ∧ k ≤ n ∧ Hold σ d 5 (bytesD (l ++ (digits n u).take k)) ∧ (∀ q ∈ tOf d, σ0.n ≤ q) ∧ Ext [] σ0 σ ∧ TellsL ts (.any :: .sc (.int .i64 n) :: .sc (.int .u64 u) :: .any :: .any :: .any :: .sc (.slice none 0 0) :: .sc (.int .i64 0) :: d :: .sc (.int .i64 ((n : Int) - 1 - k)) :: .any :: .any :: .any :: .any :: .any :: .any :: .any :: .any :: .any :: .any :: .any :: .any :: .any :: .any :: .any :: .any :: .any :: .any :: .any :: .any :: .any :: .any :: .any :: .any :: .any :: .any :: .any :: .any :: .any :: .any :: .any :: .any :: .any :: .any :: .any :: .any :: .any :: .any :: .any :: [])
theorem put_step {n : Nat} {u : Int} {k : Nat} (h : k < n) (hn : n ≤ 8) (h0 : 0 ≤ u) : IntKind.u8.wrap (u.fdiv (2 ^ min (8 * ((n : Int) - 1 - k)).toNat 64)) = digit u (n - 1 - k) := by
  have e : (8 * ((n : Int) - 1 - k)).toNat = 8 * (n - 1 - k) := by omega
  have e2 : min (8 * (n - 1 - k)) 64 = 8 * (n - 1 - k) := by omega
  rw [e, e2, wrap_u8_mod, digit, Int.fdiv_eq_ediv_of_nonneg _ (by exact_mod_cast Nat.zero_le _), Int.pow_mul]
  rfl
theorem put_ok (σ : Heap) (d : DV) (l : List Int) (n : Nat) (u : Int) (hs : Src σ d (bytesD l)) (dnl : lenD T 23 d = some (l.length : Int)) (hb : l.length ≤ 1000000) (h1 : 1 ≤ n) (h8 : n ≤ 8) (h0 : 0 ≤ u) (hu : n < 8 → u < 256 ^ n) :
    ACalls Try.prog 22 [d, .sc (.int .i64 n), .sc (.int .u64 u)] σ (fun x σ' => ∃ d', x = .tup [d', .sc (.int .i64 0)] ∧ Hold σ' d' 5 (bytesD (l ++ digits n u)) ∧ (∀ q ∈ tOf d', σ.n ≤ q) ∧ Ext [] σ σ') := by
  have dc1 : decide ((n : Int) < 1) = false := by simp; omega
  have dc2 : decide (8 < (n : Int)) = false := by simp; omega
  have dcw : IntKind.i64.wrap (8 * (n : Int)) = 8 * (n : Int) := wrap_i64 (by omega) (by omega)
  have dcw2 : IntKind.i64.wrap ((n : Int) - 1) = (n : Int) - 1 := wrap_i64 (by omega) (by omega)
  have dcw3 : IntKind.i64.wrap ((l.length : Int) + (n : Int)) = (l.length : Int) + (n : Int) := wrap_i64 (by omega) (by omega)
  have dc5 : (0 ≤ 8 * (n : Int)) = True := by simp; omega
  have dc6 : (0 ≤ (l.length : Int) + (n : Int)) = True := by simp; omega
  have dc7 : ((l.length : Int) + (n : Int)).toNat * 2 ≤ 140737488355328 := by omega
  have dc8 : (bytesD l).length = l.length := bytesD_length _
  have dc9 : ((bytesD l).all fun el => el.length == 1) = true := by rw [List.all_eq_true]; intro x hx; simp [bytesD_size l x hx]
  have dnp := hs.push
  refine ACalls.code hT Try.func22 rfl ?_
  simp only [Try.ntmps22, List.length_cons, List.length_nil, Nat.reduceSub, Nat.reduceAdd, List.replicate, List.cons_append, List.nil_append]
  repeat ((fail_if_success (with_reducible refine AW.at3 (id := 0) ?_)); first | (with_reducible first | refine AW.seq ?_ | refine AW.block ?_ | refine AW.skip ?_ | refine AW.ret ?_ | refine AW.exit ?_ | refine AW.reg hT ?_) | ((with_reducible refine AW.cond_true ?_ ?_); · rfl) | ((with_reducible refine AW.cond_false ?_ ?_); · rfl) | simp (maxSteps := 3000000) (maxDischargeDepth := 12) only [seval,push_cast,appendX,Try.results22,↓dnl,dc1,dc2,dcw,dcw2,dcw3,dc5,dc6,dc7,dc8,dc9,↓dnp])
  refine AW.seqK (fun ts' σ' => σ' = σ ∧ TellsL ts' (d :: .sc (.int .i64 n) :: .sc (.int .u64 u) :: .any :: .any :: .any :: .sc (.slice none 0 0) :: .sc (.int .i64 0) :: .any :: .any :: .any :: .any :: .any :: .any :: .any :: .any :: .any :: .any :: .any :: .any :: .any :: .any :: .any :: .any :: .any :: .any :: .any :: .any :: .any :: .any :: .any :: .any :: .any :: .any :: .any :: .any :: .any :: .any :: .any :: .any :: .any :: .any :: .any :: .any :: .any :: .any :: .any :: .any :: .any :: [])) ?_ ?_
  · by_cases hn8 : n < 8
    · have dc3 : decide ((n : Int) < 8) = true := by simp; omega
      have dc4 : (u.fdiv (2 ^ min (8 * (n : Int)).toNat 64) == 0) = true := by
        have e : (8 * (n : Int)).toNat = 8 * n := by omega
        have e2 : min (8 * n) 64 = 8 * n := by omega
        rw [e, e2, Int.fdiv_eq_ediv_of_nonneg _ (by exact_mod_cast Nat.zero_le _), Int.pow_mul]
        simpa using Int.ediv_eq_zero_of_lt h0 (hu hn8)
      repeat (first | (with_reducible first | refine AW.seq ?_ | refine AW.block ?_ | refine AW.skip ?_ | refine AW.ret ?_ | refine AW.exit ?_ | refine AW.reg hT ?_) | ((with_reducible refine AW.cond_true ?_ ?_); · rfl) | ((with_reducible refine AW.cond_false ?_ ?_); · rfl) | simp (maxSteps := 3000000) (maxDischargeDepth := 12) only [seval,push_cast,appendX,Try.results22,↓dnl,dc1,dc2,dcw,dcw2,dcw3,dc5,dc6,dc7,dc8,dc9,↓dnp,dc3,dc4])
      (simp only [push_cast, TellsL, tells_any, tells_refl])
    · have dc3 : decide ((n : Int) < 8) = false := by simp; omega
      repeat (first | (with_reducible first | refine AW.seq ?_ | refine AW.block ?_ | refine AW.skip ?_ | refine AW.ret ?_ | refine AW.exit ?_ | refine AW.reg hT ?_) | ((with_reducible refine AW.cond_true ?_ ?_); · rfl) | ((with_reducible refine AW.cond_false ?_ ?_); · rfl) | simp (maxSteps := 3000000) (maxDischargeDepth := 12) only [seval,push_cast,appendX,Try.results22,↓dnl,dc1,dc2,dcw,dcw2,dcw3,dc5,dc6,dc7,dc8,dc9,↓dnp,dc3])
      (simp only [push_cast, TellsL, tells_any, tells_refl])
  · rintro ts σ' ⟨rfl, hts⟩
    refine AW.told hts ?_
    clear hts
    have hrow : ∃ d1 σ1, appendX T (σ'.push ⟨[], 5, true⟩) 23 (.sl σ'.n 0 0 0) d = some (d1, σ1) ∧ Hold σ1 d1 5 (bytesD l) ∧ (∀ q ∈ tOf d1, σ'.n ≤ q) ∧ Ext [] σ' σ1 := by
      by_cases hl0 : l = []
      · subst hl0
        refine ⟨.sl σ'.n 0 0 0, σ'.push ⟨[], 5, true⟩, by simp (maxSteps := 3000000) (maxDischargeDepth := 12) only [seval,push_cast,appendX,bytesD,↓dnl,dc1,dc2,dcw,dcw2,dcw3,dc5,dc6,dc7,dc8,dc9,↓dnp], .inr ⟨σ'.n, [], rfl, by simp, Nat.le_refl _, rfl⟩, by simp [tOf], (Ext.refl _ _).push _⟩
      · have hl1 : ¬ l.length = 0 := by simpa using hl0
        have hl2 : l.length * 2 ≤ 140737488355328 := by omega
        refine ⟨.sl σ'.n 0 l.length l.length, (σ'.push ⟨[], 5, true⟩).set σ'.n ⟨bytesD l, 5, true⟩, by simp (maxSteps := 3000000) (maxDischargeDepth := 12) only [seval,push_cast,appendX,hl1,hl2,↓dnl,dc1,dc2,dcw,dcw2,dcw3,dc5,dc6,dc7,dc8,dc9,↓dnp], ?_, by simp [tOf], ?_⟩
        · refine .inr ⟨σ'.n, bytesD l, by simp [bytesD_length], Heap.get_set (by simp), Nat.le_refl _, List.take_length⟩
        · repeat (first | exact Ext.refl _ _ | assumption | refine Ext.push ?_ _ | ((refine Ext.set ?_ ?_ _); rotate_left; · (simp (maxSteps := 3000000) (maxDischargeDepth := 12) only [push_cast, appendX, Nat.reduceAdd, Nat.reduceEqDiff, Nat.reduceLT, Nat.reduceLeDiff, reduceIte, reduceCtorEq, ↓dnl, dc1, dc2, dcw, dcw2, dcw3, dc5, dc6, dc7, dc8, dc9, ↓dnp])) | ((refine Ext.then1 (by assumption) ?_ ?_); rotate_left; · (intro p hp _; first | assumption | exact List.mem_cons_of_mem _ hp | (cases hp; done) | (simp at hp; subst hp; simp))))
    obtain ⟨d1, σ1, dnapp, hh1, hn1, xt1⟩ := hrow
    repeat (first | (with_reducible first | refine AW.seq ?_ | refine AW.block ?_ | refine AW.skip ?_ | refine AW.ret ?_ | refine AW.exit ?_ | refine AW.reg hT ?_) | ((with_reducible refine AW.cond_true ?_ ?_); · rfl) | ((with_reducible refine AW.cond_false ?_ ?_); · rfl) | simp (maxSteps := 3000000) (maxDischargeDepth := 12) only [seval,push_cast,appendX,Try.results22,↓dnl,dc1,dc2,dcw,dcw2,dcw3,dc5,dc6,dc7,dc8,dc9,↓dnp,↓dnapp,xt1.2,xt1.ltT,xt1.leT])
    refine AW.loop (putI l n u σ') (m := n + 1) ⟨0, d1, rfl, Nat.zero_le _, by simpa using hh1, hn1, xt1, by (simp only [push_cast, TellsL, tells_any, tells_refl, Int.sub_zero, cast0])⟩ ?_
    rintro m ts σ3 ⟨k, d2, rfl, hkn, hh, hnew, xt3, hts⟩
    refine AW.told hts ?_
    clear hts
    by_cases hk : k < n
    · have dck : decide (0 ≤ (n : Int) - 1 - (k : Int)) = true := by simp; omega
      have dcw4 : IntKind.i64.wrap (8 * ((n : Int) - 1 - (k : Int))) = 8 * ((n : Int) - 1 - (k : Int)) := wrap_i64 (by omega) (by omega)
      have dcw5 : IntKind.i64.wrap ((n : Int) - 1 - (k : Int) - 1) = (n : Int) - 1 - ((k + 1 : Nat) : Int) := by rw [wrap_i64 (by omega) (by omega)]; omega
      have dcs := put_step hk h8 h0
      have dc10 : (0 ≤ 8 * ((n : Int) - 1 - (k : Int))) = True := by simp; omega
      have hdk : (digits n u).take (k + 1) = (digits n u).take k ++ [digit u (n - 1 - k)] := by rw [List.take_add_one, digits_get n u k hk]; rfl
      obtain ⟨d3, σ4, dnapp2, hh4, xt4, hfp⟩ := Hold.append (T := T) (ty := 23) (x := .sl σ3.n 0 1 1) (xs := [[.sc (.int .u8 (digit u (n - 1 - k)))]]) (hh.frame (X := []) (σ' := σ3.push ⟨[[.sc (.int .u8 (digit u (n - 1 - k)))]], 5, true⟩) (by repeat (first | exact Ext.refl _ _ | assumption | refine Ext.push ?_ _ | ((refine Ext.set ?_ ?_ _); rotate_left; · (simp (maxSteps := 3000000) (maxDischargeDepth := 12) only [push_cast, appendX, Nat.reduceAdd, Nat.reduceEqDiff, Nat.reduceLT, Nat.reduceLeDiff, reduceIte, reduceCtorEq, ↓dnl, dc1, dc2, dcw, dcw2, dcw3, dc5, dc6, dc7, dc8, dc9, ↓dnp, ↓dnapp, xt1.2, xt1.ltT, xt1.leT, xt3.2, xt3.ltT, xt3.leT, dck, dcw4, dcw5, dcs, dc10])) | ((refine Ext.then1 (by assumption) ?_ ?_); rotate_left; · (intro p hp _; first | assumption | exact List.mem_cons_of_mem _ hp | (cases hp; done) | (simp at hp; subst hp; simp))))) (by simp)) rfl rfl (by decide) (by simp (maxSteps := 3000000) (maxDischargeDepth := 12) only [seval,push_cast,appendX,sliceD,↓dnl,dc1,dc2,dcw,dcw2,dcw3,dc5,dc6,dc7,dc8,dc9,↓dnp,↓dnapp,xt1.2,xt1.ltT,xt1.leT,xt3.2,xt3.ltT,xt3.leT,dck,dcw4,dcw5,dcs,dc10]) (by simp) rfl (by
        have := digits_length n u
        simp [bytesD_length]; omega)
      repeat (first | (with_reducible first | refine AW.seq ?_ | refine AW.block ?_ | refine AW.skip ?_ | refine AW.ret ?_ | refine AW.exit ?_ | refine AW.reg hT ?_) | ((with_reducible refine AW.cond_true ?_ ?_); · rfl) | ((with_reducible refine AW.cond_false ?_ ?_); · rfl) | simp (maxSteps := 3000000) (maxDischargeDepth := 12) only [seval,push_cast,appendX,Try.results22,↓dnl,dc1,dc2,dcw,dcw2,dcw3,dc5,dc6,dc7,dc8,dc9,↓dnp,↓dnapp,xt1.2,xt1.ltT,xt1.leT,xt3.2,xt3.ltT,xt3.leT,dck,dcw4,dcw5,dcs,dc10,↓dnapp2,xt4.2,xt4.ltT,xt4.leT])
      refine ⟨n + 1 - (k + 1), by omega, k + 1, d3, rfl, hk, ?_, ?_, ?_, ?_⟩
      · rw [hdk, ← List.append_assoc, bytesD_append]; exact hh4
      · intro q hq
        rcases Nat.lt_or_ge q (σ3.push ⟨[[.sc (.int .u8 (digit u (n - 1 - k)))]], 5, true⟩).n with h | h
        · exact hnew q (hfp q h hq)
        · have h1 := xt3.1; simp at h; omega
      · exact (xt3.push _).then xt4 (fun q hq hlq => absurd (hnew q hq) (by omega))
      · (simp only [push_cast, TellsL, tells_any, tells_refl])
    · have dck : decide (0 ≤ (n : Int) - 1 - (k : Int)) = false := by simp; omega
      have dncl := hh.cells
      have dnlf := hh.leaf
      repeat (first | (with_reducible first | refine AW.seq ?_ | refine AW.block ?_ | refine AW.skip ?_ | refine AW.ret ?_ | refine AW.exit ?_ | refine AW.reg hT ?_) | ((with_reducible refine AW.cond_true ?_ ?_); · rfl) | ((with_reducible refine AW.cond_false ?_ ?_); · rfl) | simp (maxSteps := 3000000) (maxDischargeDepth := 12) only [seval,push_cast,appendX,Try.results22,↓dnl,dc1,dc2,dcw,dcw2,dcw3,dc5,dc6,dc7,dc8,dc9,↓dnp,↓dnapp,xt1.2,xt1.ltT,xt1.leT,xt3.2,xt3.ltT,xt3.leT,dck,↓dncl,↓dnlf])
      refine ⟨d2, rfl, ?_, hnew, xt3⟩
      rwa [List.take_of_length_le (by rw [digits_length]; omega)] at hh
theorem bytes_all (l : List Int) : ((bytesD l).all fun el => el.length == 1) = true := by rw [List.all_eq_true]; intro x hx; simp [bytesD_size l x hx]
/-- A reader that has still l, and the error e. -/
def ROb (l : List Int) (e : Int) : AObj := ⟨[[.sc (.bool true), .imm (bytesD l), .sc (.int .i64 e)]], 125, true⟩
theorem rdnew_ok (σ : Heap) (d : DV) (l : List Int) (hs : Src σ d (bytesD l)) (hb : l.length ≤ 1000000) :
    ACalls Try.prog 35 [d] σ (fun x σ' => ∃ p, x = .ptr p 0 0 1 ∧ σ.n ≤ p ∧ σ'.get p = some (ROb l 0) ∧ Ext [] σ σ') := by
  refine ACalls.holdCell ?_
  obtain ⟨d1, σ1, dnapp, hh, xt1, hnew⟩ := (Hold.nil σ 5).append0 (T := T) (ty := 23) (x := d) (xs := bytesD l) rfl rfl (by decide) hs.now (bytes_all l) (by rw [bytesD_length]; simp; omega)
  have dncl := hh.cells
  have dnlf := hh.leaf
  have hl := hh.lt
  refine ACalls.code hT Try.func35 rfl ?_
  simp only [Try.ntmps35, List.length_cons, List.length_nil, Nat.reduceSub, Nat.reduceAdd, List.replicate, List.cons_append, List.nil_append]
  repeat (first | (with_reducible first | refine AW.seq ?_ | refine AW.block ?_ | refine AW.skip ?_ | refine AW.ret ?_ | refine AW.exit ?_ | refine AW.reg hT ?_) | ((with_reducible refine AW.cond_true ?_ ?_); · rfl) | ((with_reducible refine AW.cond_false ?_ ?_); · rfl) | simp (maxSteps := 3000000) (maxDischargeDepth := 12) only [seval,push_cast,appendX,Try.results35,↓dnapp,xt1.2,xt1.ltT,xt1.leT,↓dncl,↓dnlf])
  refine ⟨σ1.n, [.sc (.bool true)], d1, [.sc (.int .i64 0)], 125, true, bytesD l, 5, (by simpa using hh.frame (X := []) ((Ext.refl _ _).push _) (by simp)), by simp (maxSteps := 3000000) (maxDischargeDepth := 12) only [push_cast, appendX, Nat.reduceAdd, Nat.reduceEqDiff, Nat.reduceLT, Nat.reduceLeDiff, reduceIte, reduceCtorEq, List.cons_append, List.nil_append, ↓dnapp, xt1.2, xt1.ltT, xt1.leT, ↓dncl, ↓dnlf], fun hm => by have := hl _ hm; omega, fun σ'' hx hg => ⟨σ1.n, rfl, xt1.1, hg, ?_⟩⟩
  have xt2 : Ext [] σ σ1 := xt1
  refine (xt2.push _).then hx (fun q hq hlq => ?_)
  rcases List.mem_cons.1 hq with rfl | hq
  · have := xt1.1; omega
  · have := hnew q hlq hq; simp [tOf] at this
theorem err_ok (σ : Heap) {p : Nat} {l : List Int} {e : Int} (gtp : σ.get p = some (ROb l e)) : ACalls Try.prog 39 [.ptr p 0 0 1] σ (fun x σ' => x = .sc (.int .i64 e) ∧ σ' = σ) := by
  refine ACalls.code hT Try.func39 rfl ?_
  simp only [Try.ntmps39, List.length_cons, List.length_nil, Nat.reduceSub, Nat.reduceAdd, List.replicate, List.cons_append, List.nil_append]
  repeat (first | (with_reducible first | refine AW.seq ?_ | refine AW.block ?_ | refine AW.skip ?_ | refine AW.ret ?_ | refine AW.exit ?_ | refine AW.reg hT ?_) | ((with_reducible refine AW.cond_true ?_ ?_); · rfl) | ((with_reducible refine AW.cond_false ?_ ?_); · rfl) | simp (maxSteps := 3000000) (maxDischargeDepth := 12) only [seval,push_cast,appendX,Try.results39,ROb,gtp,Heap.lt gtp])
theorem left_ok (σ : Heap) {p : Nat} {l : List Int} {e : Int} (gtp : σ.get p = some (ROb l e)) : ACalls Try.prog 36 [.ptr p 0 0 1] σ (fun x σ' => x = .sc (.int .i64 l.length) ∧ σ' = σ) := by
  have dc8 : (bytesD l).length = l.length := bytesD_length _
  refine ACalls.code hT Try.func36 rfl ?_
  simp only [Try.ntmps36, List.length_cons, List.length_nil, Nat.reduceSub, Nat.reduceAdd, List.replicate, List.cons_append, List.nil_append]
  repeat (first | (with_reducible first | refine AW.seq ?_ | refine AW.block ?_ | refine AW.skip ?_ | refine AW.ret ?_ | refine AW.exit ?_ | refine AW.reg hT ?_) | ((with_reducible refine AW.cond_true ?_ ?_); · rfl) | ((with_reducible refine AW.cond_false ?_ ?_); · rfl) | simp (maxSteps := 3000000) (maxDischargeDepth := 12) only [seval,push_cast,appendX,Try.results36,ROb,gtp,Heap.lt gtp,dc8])
/-- What a reader has behind a take, its error, and what it answers. -/
def tk (l : List Int) (e n : Int) (ok : Bool) : List Int × Int × List Int := if e ≠ 0 then (l, e, []) else if ok = false then (l, 2, []) else if (l.length : Int) < n then (l, 4, []) else (l.drop n.toNat, 0, l.take n.toNat)
theorem take_ok (σ : Heap) {p : Nat} {l : List Int} {e : Int} (n : Int) (ok : Bool) (gtp : σ.get p = some (ROb l e)) (hn : ok = true → 0 ≤ n) :
    ACalls Try.prog 62 [.ptr p 0 0 1, .sc (.int .i64 n), .sc (.bool ok)] σ (fun x σ' => x = .imm (bytesD (tk l e n ok).2.2) ∧ σ'.get p = some (ROb (tk l e n ok).1 (tk l e n ok).2.1) ∧ Ext [p] σ σ') := by
  have dc8 : (bytesD l).length = l.length := bytesD_length _
  have dc9 := bytes_all l
  have hlt := Heap.lt gtp
  refine ACalls.tells ?_
  refine ACalls.code hT Try.func62 rfl ?_
  simp only [Try.ntmps62, List.length_cons, List.length_nil, Nat.reduceSub, Nat.reduceAdd, List.replicate, List.cons_append, List.nil_append]
  repeat (first | (with_reducible first | refine AW.seq ?_ | refine AW.block ?_ | refine AW.skip ?_ | refine AW.ret ?_ | refine AW.exit ?_ | refine AW.reg hT ?_) | ((with_reducible refine AW.cond_true ?_ ?_); · rfl) | ((with_reducible refine AW.cond_false ?_ ?_); · rfl) | simp (maxSteps := 3000000) (maxDischargeDepth := 12) only [seval,push_cast,appendX,Try.results62,gtp,Heap.lt gtp,dc8,dc9])
  refine AOpsL.call (first := []) (cap := []) hT rfl rfl rfl fn39 rfl (ACalls.mono (err_ok _ gtp) ?_)
  rintro x σ' ⟨rfl, rfl⟩
  by_cases he : e = 0
  · have dce : (e == 0) = true := by simpa using he
    cases ok with
    | false =>
      repeat (first | (with_reducible first | refine AW.seq ?_ | refine AW.block ?_ | refine AW.skip ?_ | refine AW.ret ?_ | refine AW.exit ?_ | refine AW.reg hT ?_) | ((with_reducible refine AW.cond_true ?_ ?_); · rfl) | ((with_reducible refine AW.cond_false ?_ ?_); · rfl) | simp (maxSteps := 3000000) (maxDischargeDepth := 12) only [seval,push_cast,appendX,Try.results62,ROb,gtp,Heap.lt gtp,dc8,dc9,dce])
      refine ⟨.imm [], Tells.nil, by simp [tk, he, bytesD], ?_, ?_⟩
      · simp (maxSteps := 3000000) (maxDischargeDepth := 12) only [push_cast, appendX, Nat.reduceAdd, Nat.reduceEqDiff, Nat.reduceLT, Nat.reduceLeDiff, reduceIte, reduceCtorEq, ROb, tk, gtp, Heap.lt gtp, dc8, dc9, dce]
        simp [tk, he, ROb]
      · repeat (first | exact Ext.refl _ _ | assumption | refine Ext.push ?_ _ | ((refine Ext.set ?_ ?_ _); rotate_left; · (simp (maxSteps := 3000000) (maxDischargeDepth := 12) only [push_cast, appendX, Nat.reduceAdd, Nat.reduceEqDiff, Nat.reduceLT, Nat.reduceLeDiff, reduceIte, reduceCtorEq, gtp, Heap.lt gtp, dc8, dc9, dce])) | ((refine Ext.then1 (by assumption) ?_ ?_); rotate_left; · (intro p hp _; first | assumption | exact List.mem_cons_of_mem _ hp | (cases hp; done) | (simp at hp; subst hp; simp))))
    | true =>
      obtain ⟨k, rfl⟩ := Int.eq_ofNat_of_zero_le (hn rfl)
      by_cases hl : l.length < k
      · have dcl : decide ((l.length : Int) < (k : Int)) = true := by simp; omega
        repeat (first | (with_reducible first | refine AW.seq ?_ | refine AW.block ?_ | refine AW.skip ?_ | refine AW.ret ?_ | refine AW.exit ?_ | refine AW.reg hT ?_) | ((with_reducible refine AW.cond_true ?_ ?_); · rfl) | ((with_reducible refine AW.cond_false ?_ ?_); · rfl) | simp (maxSteps := 3000000) (maxDischargeDepth := 12) only [seval,push_cast,appendX,Try.results62,ROb,gtp,Heap.lt gtp,dc8,dc9,dce,dcl])
        refine ⟨.imm [], Tells.nil, by simp [tk, he, bytesD, hl], ?_, ?_⟩
        · simp (maxSteps := 3000000) (maxDischargeDepth := 12) only [push_cast, appendX, Nat.reduceAdd, Nat.reduceEqDiff, Nat.reduceLT, Nat.reduceLeDiff, reduceIte, reduceCtorEq, ROb, tk, gtp, Heap.lt gtp, dc8, dc9, dce, dcl]
          simp [tk, he, ROb, hl]
        · repeat (first | exact Ext.refl _ _ | assumption | refine Ext.push ?_ _ | ((refine Ext.set ?_ ?_ _); rotate_left; · (simp (maxSteps := 3000000) (maxDischargeDepth := 12) only [push_cast, appendX, Nat.reduceAdd, Nat.reduceEqDiff, Nat.reduceLT, Nat.reduceLeDiff, reduceIte, reduceCtorEq, gtp, Heap.lt gtp, dc8, dc9, dce, dcl])) | ((refine Ext.then1 (by assumption) ?_ ?_); rotate_left; · (intro p hp _; first | assumption | exact List.mem_cons_of_mem _ hp | (cases hp; done) | (simp at hp; subst hp; simp))))
      · have dcl : decide ((l.length : Int) < (k : Int)) = false := by simp; omega
        have dc1 : ((k : Int) ≤ (l.length : Int)) = True := by simp; omega
        have dc2 : ((0 : Int) ≤ (k : Int)) = True := by simp
        have htk : (l.take k).length = k := by simp; omega
        repeat (first | (with_reducible first | refine AW.seq ?_ | refine AW.block ?_ | refine AW.skip ?_ | refine AW.ret ?_ | refine AW.exit ?_ | refine AW.reg hT ?_) | ((with_reducible refine AW.cond_true ?_ ?_); · rfl) | ((with_reducible refine AW.cond_false ?_ ?_); · rfl) | simp (maxSteps := 3000000) (maxDischargeDepth := 12) only [seval,push_cast,appendX,Try.results62,ROb,gtp,Heap.lt gtp,dc8,dc9,dce,dcl,dc1,dc2])
        refine ⟨_, Tells.refl _, by simp [tk, he, hl, bytesD_take], ?_, ?_⟩
        · simp (maxSteps := 3000000) (maxDischargeDepth := 12) only [push_cast, appendX, Nat.reduceAdd, Nat.reduceEqDiff, Nat.reduceLT, Nat.reduceLeDiff, reduceIte, reduceCtorEq, ROb, tk, gtp, Heap.lt gtp, dc8, dc9, dce, dcl, dc1, dc2]
          simp [tk, he, ROb, hl]
          rw [List.take_of_length_le (by rw [dc8]; exact Nat.le_refl _), bytesD_drop]
        · repeat (first | exact Ext.refl _ _ | assumption | refine Ext.push ?_ _ | ((refine Ext.set ?_ ?_ _); rotate_left; · (simp (maxSteps := 3000000) (maxDischargeDepth := 12) only [push_cast, appendX, Nat.reduceAdd, Nat.reduceEqDiff, Nat.reduceLT, Nat.reduceLeDiff, reduceIte, reduceCtorEq, gtp, Heap.lt gtp, dc8, dc9, dce, dcl, dc1, dc2])) | ((refine Ext.then1 (by assumption) ?_ ?_); rotate_left; · (intro p hp _; first | assumption | exact List.mem_cons_of_mem _ hp | (cases hp; done) | (simp at hp; subst hp; simp))))
  · have dce : (e == 0) = false := by simpa using he
    repeat (first | (with_reducible first | refine AW.seq ?_ | refine AW.block ?_ | refine AW.skip ?_ | refine AW.ret ?_ | refine AW.exit ?_ | refine AW.reg hT ?_) | ((with_reducible refine AW.cond_true ?_ ?_); · rfl) | ((with_reducible refine AW.cond_false ?_ ?_); · rfl) | simp (maxSteps := 3000000) (maxDischargeDepth := 12) only [seval,push_cast,appendX,Try.results62,ROb,gtp,Heap.lt gtp,dc8,dc9,dce])
    refine ⟨.imm [], Tells.nil, by simp [tk, he, bytesD], ?_, ?_⟩
    · simp (maxSteps := 3000000) (maxDischargeDepth := 12) only [push_cast, appendX, Nat.reduceAdd, Nat.reduceEqDiff, Nat.reduceLT, Nat.reduceLeDiff, reduceIte, reduceCtorEq, ROb, tk, gtp, Heap.lt gtp, dc8, dc9, dce]
      simp [tk, he, ROb]
    · repeat (first | exact Ext.refl _ _ | assumption | refine Ext.push ?_ _ | ((refine Ext.set ?_ ?_ _); rotate_left; · (simp (maxSteps := 3000000) (maxDischargeDepth := 12) only [push_cast, appendX, Nat.reduceAdd, Nat.reduceEqDiff, Nat.reduceLT, Nat.reduceLeDiff, reduceIte, reduceCtorEq, gtp, Heap.lt gtp, dc8, dc9, dce])) | ((refine Ext.then1 (by assumption) ?_ ?_); rotate_left; · (intro p hp _; first | assumption | exact List.mem_cons_of_mem _ hp | (cases hp; done) | (simp at hp; subst hp; simp))))
theorem bytes_ok (σ : Heap) {p : Nat} {l : List Int} {e : Int} (n : Int) (gtp : σ.get p = some (ROb l e)) :
    ACalls Try.prog 38 [.ptr p 0 0 1, .sc (.int .i64 n)] σ (fun x σ' => x = .imm (bytesD (tk l e n (decide (0 ≤ n))).2.2) ∧ σ'.get p = some (ROb (tk l e n (decide (0 ≤ n))).1 (tk l e n (decide (0 ≤ n))).2.1) ∧ Ext [p] σ σ') := by
  refine ACalls.code hT Try.func38 rfl ?_
  simp only [Try.ntmps38, List.length_cons, List.length_nil, Nat.reduceSub, Nat.reduceAdd, List.replicate, List.cons_append, List.nil_append]
  repeat (first | (with_reducible first | refine AW.seq ?_ | refine AW.block ?_ | refine AW.skip ?_ | refine AW.ret ?_ | refine AW.exit ?_ | refine AW.reg hT ?_) | ((with_reducible refine AW.cond_true ?_ ?_); · rfl) | ((with_reducible refine AW.cond_false ?_ ?_); · rfl) | simp (maxSteps := 3000000) (maxDischargeDepth := 12) only [seval,push_cast,appendX,Try.results38,gtp,Heap.lt gtp])
  refine AOpsL.call (first := []) (cap := []) hT rfl rfl rfl fn62 rfl (ACalls.mono (take_ok _ n (decide (0 ≤ n)) gtp (by simp)) ?_)
  rintro x σ' ⟨rfl, gt1, xt1⟩
  repeat (first | (with_reducible first | refine AW.seq ?_ | refine AW.block ?_ | refine AW.skip ?_ | refine AW.ret ?_ | refine AW.exit ?_ | refine AW.reg hT ?_) | ((with_reducible refine AW.cond_true ?_ ?_); · rfl) | ((with_reducible refine AW.cond_false ?_ ?_); · rfl) | simp (maxSteps := 3000000) (maxDischargeDepth := 12) only [seval,push_cast,appendX,Try.results38,gtp,Heap.lt gtp,gt1,Heap.lt gt1,xt1.2,xt1.ltT,xt1.leT])
  exact xt1
theorem tk_octs {l : List Int} (h : Octs l) (e n : Int) (ok : Bool) : Octs (tk l e n ok).1 ∧ Octs (tk l e n ok).2.2 := by
  unfold tk
  split
  · exact ⟨h, by simp [Octs]⟩
  · split
    · exact ⟨h, by simp [Octs]⟩
    · split
      · exact ⟨h, by simp [Octs]⟩
      · exact ⟨h.drop _, h.take _⟩
theorem tk_len (l : List Int) (e n : Int) (ok : Bool) (hn : ok = true → 0 ≤ n) : (tk l e n ok).2.2.length = 0 ∨ (ok = true ∧ ((tk l e n ok).2.2.length : Int) = n) := by
  unfold tk
  split
  · simp
  · split
    · simp
    · split
      · simp
      · rename_i h1 h2 h3
        have h4 : ok = true := by simpa using h2
        have := hn h4
        refine .inr ⟨h4, ?_⟩
        simp only [List.length_take]; omega
def uiI (out : List Int) (p : Nat) (σ0 : Heap) (m : Nat) (ts : List DV) (σ : Heap) : Prop := ∃ i, m = out.length + 1 - i ∧ i ≤ out.length ∧ σ = σ0 ∧ TellsL ts (.any :: .any :: .any :: .any :: .sc (.int .u64 0) :: .sc (.int .u64 (num (out.take i))) :: .any :: .any :: .any :: .any :: .any :: .any :: .any :: .any :: .any :: .any :: .imm (bytesD out) :: .sc (.int .i64 out.length) :: .sc (.int .i64 i) :: .any :: .any :: .any :: .any :: .any :: .any :: .any :: .any :: .any :: .any :: [])
theorem uint_ok (σ : Heap) {p : Nat} {l : List Int} {e : Int} (n : Int) (gtp : σ.get p = some (ROb l e)) (ho : Octs l) :
    ACalls Try.prog 37 [.ptr p 0 0 1, .sc (.int .i64 n)] σ (fun x σ' => x = .sc (.int .u64 (num (tk l e n (decide (1 ≤ n ∧ n ≤ 8))).2.2)) ∧ σ'.get p = some (ROb (tk l e n (decide (1 ≤ n ∧ n ≤ 8))).1 (tk l e n (decide (1 ≤ n ∧ n ≤ 8))).2.1) ∧ Ext [p] σ σ') := by
  have hlen := tk_len l e n (decide (1 ≤ n ∧ n ≤ 8)) (by simp; omega)
  have hoct := (tk_octs ho e n (decide (1 ≤ n ∧ n ≤ 8))).2
  have hcall := take_ok σ n (decide (1 ≤ n ∧ n ≤ 8)) gtp (by simp; omega)
  revert hlen hoct hcall
  generalize htk : tk l e n (decide (1 ≤ n ∧ n ≤ 8)) = T0
  obtain ⟨left, er, out⟩ := T0
  intro hlen hoct hcall
  simp only at hlen hoct hcall
  have hl8 : out.length ≤ 8 := by
    rcases hlen with h | ⟨h1, h2⟩
    · omega
    · simp at h1; omega
  have dc8 : (bytesD out).length = out.length := bytesD_length _
  refine ACalls.code hT Try.func37 rfl ?_
  simp only [Try.ntmps37, List.length_cons, List.length_nil, Nat.reduceSub, Nat.reduceAdd, List.replicate, List.cons_append, List.nil_append]
  have hok : (decide (1 ≤ n) = true ∧ decide (n ≤ 8) = decide (1 ≤ n ∧ n ≤ 8)) ∨ (decide (1 ≤ n) = false ∧ decide (1 ≤ n ∧ n ≤ 8) = false) := by
    by_cases h : 1 ≤ n
    · exact .inl ⟨by simpa using h, by simp [h]⟩
    · exact .inr ⟨by simpa using h, by simp [h]⟩
  rcases hok with ⟨dc1, dc2⟩ | ⟨dc1, dc2⟩
  all_goals (
    (try rw [dc2] at hcall)
    repeat (first | (with_reducible first | refine AW.seq ?_ | refine AW.block ?_ | refine AW.skip ?_ | refine AW.ret ?_ | refine AW.exit ?_ | refine AW.reg hT ?_) | ((with_reducible refine AW.cond_true ?_ ?_); · rfl) | ((with_reducible refine AW.cond_false ?_ ?_); · rfl) | simp (maxSteps := 3000000) (maxDischargeDepth := 12) only [seval,push_cast,appendX,Try.results37,gtp,Heap.lt gtp,dc8,dc1,dc2])
    refine AOpsL.call (first := []) (cap := []) hT rfl rfl rfl fn62 rfl (ACalls.mono (hcall) ?_)
    rintro x σ1 ⟨rfl, gt1, xt1⟩
    repeat (first | (with_reducible first | refine AW.seq ?_ | refine AW.block ?_ | refine AW.skip ?_ | refine AW.ret ?_ | refine AW.exit ?_ | refine AW.reg hT ?_) | ((with_reducible refine AW.cond_true ?_ ?_); · rfl) | ((with_reducible refine AW.cond_false ?_ ?_); · rfl) | simp (maxSteps := 3000000) (maxDischargeDepth := 12) only [seval,push_cast,appendX,Try.results37,gtp,Heap.lt gtp,dc8,dc1,dc2,gt1,Heap.lt gt1,xt1.2,xt1.ltT,xt1.leT])
    refine AW.loop (uiI out p σ1) (m := out.length + 1) ⟨0, rfl, Nat.zero_le _, rfl, by (simp only [push_cast, TellsL, tells_any, tells_refl, List.take_zero, num, List.foldl_nil])⟩ ?_
    rintro m ts σ3 ⟨i, rfl, hil, rfl, hts⟩
    refine AW.told hts ?_
    clear hts
    by_cases hi : i < out.length
    · have dci : decide ((i : Int) < (out.length : Int)) = true := by simp; omega
      have dci2 : ((i : Int) < (out.length : Int)) = True := by simp; omega
      have dci0 : ((0 : Int) ≤ (i : Int)) = True := by simp
      have dcg := bytesD_get hi
      have dcw : IntKind.i64.wrap ((i : Int) + 1) = (i : Int) + 1 := wrap_i64 (by omega) (by omega)
      have h1 := num_bound (hoct.take i)
      have h2 := num_bound (hoct.take (i + 1))
      have h3 := hoct _ (List.getElem_mem hi)
      have hic : (((i + 1 : Nat)) : Int) = (i : Int) + 1 := by omega
      rw [num_take hi] at h2
      have hp : (256 : Int) ^ (out.take (i + 1)).length ≤ 18446744073709551616 := pow256_le8 (by simp; omega)
      have dcor : Go.bits .or .u64 (IntKind.u64.wrap (num (out.take i) * 2 ^ min 8 64)) (IntKind.u64.wrap out[i]) = num (out.take (i + 1)) := by
        rw [show (2 : Int) ^ min 8 64 = 256 from by decide, or_step h1.1 (by omega) h3.1 (by omega), num_take hi]
      repeat (first | (with_reducible first | refine AW.seq ?_ | refine AW.block ?_ | refine AW.skip ?_ | refine AW.ret ?_ | refine AW.exit ?_ | refine AW.reg hT ?_) | ((with_reducible refine AW.cond_true ?_ ?_); · rfl) | ((with_reducible refine AW.cond_false ?_ ?_); · rfl) | simp (maxSteps := 3000000) (maxDischargeDepth := 12) only [seval,push_cast,appendX,Try.results37,gtp,Heap.lt gtp,dc8,dc1,dc2,gt1,Heap.lt gt1,xt1.2,xt1.ltT,xt1.leT,dci,dci2,dci0,dcg,dcw,dcor])
      refine ⟨out.length + 1 - (i + 1), by omega, i + 1, rfl, hi, rfl, by (simp only [push_cast, TellsL, tells_any, tells_refl, hic])⟩
    · have dci : decide ((i : Int) < (out.length : Int)) = false := by simp; omega
      have he : i = out.length := by omega
      subst he
      rw [List.take_length]
      repeat (first | (with_reducible first | refine AW.seq ?_ | refine AW.block ?_ | refine AW.skip ?_ | refine AW.ret ?_ | refine AW.exit ?_ | refine AW.reg hT ?_) | ((with_reducible refine AW.cond_true ?_ ?_); · rfl) | ((with_reducible refine AW.cond_false ?_ ?_); · rfl) | simp (maxSteps := 3000000) (maxDischargeDepth := 12) only [seval,push_cast,appendX,Try.results37,gtp,Heap.lt gtp,dc8,dc1,dc2,gt1,Heap.lt gt1,xt1.2,xt1.ltT,xt1.leT,dci])
      exact xt1)
end Go.Proofs.Ytdkhlhfdjggbpaa.Cm
