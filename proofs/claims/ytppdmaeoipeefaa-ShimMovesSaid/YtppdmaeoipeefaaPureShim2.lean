/- Stacks and their bytes, there and back. No program here. -/
import Derived.Test.YtppdmaeoipeefaaPureAlive03
namespace Go.Proofs.Ytppdmaeoipeefaa.Ref
open Go.RowKit Go.Proofs.YtppdmaeoipeefaaW.PrintWords Go.Proofs.YtppdmaeoipeefaaW.PrintLast Go.Proofs.YtppdmaeoipeefaaW.PrintMore Go.Proofs.Ytppdmaeoipeefaa.Oct Go.Proofs.Ytppdmaeoipeefaa.Q Go.Proofs.Ytppdmaeoipeefaa.Giv
set_option linter.unusedVariables false

def encB : List S24 → List Int
  | [] => []
  | e :: r => digits (numE e r.isEmpty) 4 ++ encB r
theorem encB_length : ∀ l, (encB l).length = 4 * l.length
  | [] => rfl
  | e :: r => by
    rw [encB, List.length_append, digits_length, encB_length r, List.length_cons]
    omega
theorem encB_ok : ∀ l, okB (encB l)
  | [], x, h => by simp [encB] at h
  | e :: r, x, h => by
    rw [encB, List.mem_append] at h
    exact h.elim (digits_mem _ 4 x) (encB_ok r x)
theorem encGo_ok : ∀ (l : List S24) (out : List Int), (∀ e ∈ l, mayP e) → encGo l out = (out ++ encB l, 0)
  | [], out, _ => by simp [encGo, encB]
  | e :: r, out, h => by
    rw [encGo, if_pos (h e (by simp)), encGo_ok r _ (fun x hx => h x (by simp [hx])), encB, List.append_assoc]
theorem encGo_bad : ∀ (l : List S24) (out : List Int), (¬ ∀ e ∈ l, mayP e) → encGo l out = ([], 2)
  | [], out, h => absurd (fun e he => by simp at he) h
  | e :: r, out, h => by
    by_cases he : mayP e
    · rw [encGo, if_pos he]
      exact encGo_bad r _ (fun hr => h (fun x hx => by
        rcases List.mem_cons.1 hx with rfl | hx
        · exact he
        · exact hr x hx))
    · rw [encGo, if_neg he]
theorem encF_cases (l : List S24) : (encF l = (encB l, 0) ∧ l.length ≤ 8 ∧ ∀ e ∈ l, mayP e) ∨ ∃ f, encF l = ([], f) ∧ f ≠ 0 := by
  unfold encF
  by_cases h : (l.length : Int) > 8
  · rw [if_pos h]
    exact .inr ⟨3, rfl, by decide⟩
  · rw [if_neg h]
    by_cases hm : ∀ e ∈ l, mayP e
    · rw [encGo_ok l [] hm]
      exact .inl ⟨by simp, by omega, hm⟩
    · rw [encGo_bad l [] hm]
      exact .inr ⟨2, rfl, by decide⟩
theorem digits_four (u : Int) : digits u 4 = [digit u 3, digit u 2, digit u 1, digit u 0] := rfl
theorem num4_digits {u : Int} (h0 : 0 ≤ u) (h1 : u < 4294967296) : num4 (digit u 3) (digit u 2) (digit u 1) (digit u 0) = u := by
  unfold num4 digit
  simp only [Nat.reduceMul, Int.reducePow]
  omega
theorem numE_bit {e : S24} (h : mayP e) (b : Bool) : numE e b / 256 % 2 = (if b = true then 1 else 0) ∧ entF (numE e b) = e ∧ digit (numE e b) 1 % 2 = (if b = true then 1 else 0) ∧ digit (numE e b) 0 = e.f2 := by
  obtain ⟨f0, f1, f2⟩ := e
  obtain ⟨⟨a0, a1⟩, ⟨b0, b1⟩, c0, c1⟩ := h
  simp only at a0 a1 b0 b1 c0 c1
  unfold numE entF digit
  simp only [Nat.reduceMul, Int.reducePow]
  cases b <;> simp <;> omega
theorem entF_may (a b c d : Int) (ha : 0 ≤ a ∧ a ≤ 255) (hb : 0 ≤ b ∧ b ≤ 255) (hc : 0 ≤ c ∧ c ≤ 255) (hd : 0 ≤ d ∧ d ≤ 255) : mayP (entF (num4 a b c d)) := by
  unfold mayP entF num4
  simp only
  omega
theorem digits_num4 (a b c d : Int) (ha : 0 ≤ a ∧ a ≤ 255) (hb : 0 ≤ b ∧ b ≤ 255) (hc : 0 ≤ c ∧ c ≤ 255) (hd : 0 ≤ d ∧ d ≤ 255) (last : Bool) (h : num4 a b c d / 256 % 2 = (if last = true then 1 else 0)) :
    digits (numE (entF (num4 a b c d)) last) 4 = [a, b, c, d] := by
  have e : numE (entF (num4 a b c d)) last = num4 a b c d := by
    unfold numE entF
    simp only
    cases last <;> simp at h ⊢ <;> omega
  rw [e, digits_four]
  have hn : num4 a b c d = ((a * 256 + b) * 256 + c) * 256 + d := rfl
  unfold digit
  simp only [Nat.reduceMul, Int.reducePow, hn]
  have e3 : (((a * 256 + b) * 256 + c) * 256 + d) / 16777216 % 256 = a := by omega
  have e2 : (((a * 256 + b) * 256 + c) * 256 + d) / 65536 % 256 = b := by omega
  have e1 : (((a * 256 + b) * 256 + c) * 256 + d) / 256 % 256 = c := by omega
  have e0 : (((a * 256 + b) * 256 + c) * 256 + d) / 1 % 256 = d := by omega
  rw [e3, e2, e1, e0]
theorem decGo_enc : ∀ (l : List S24) (k : Nat) (b : List Int) (out : List S24), l ≠ [] → l.length ≤ k → (∀ e ∈ l, mayP e) → decGo k (encB l ++ b) out = (out ++ l, b, 0)
  | [], _, _, _, h, _, _ => absurd rfl h
  | e :: r, 0, _, _, _, h, _ => by simp at h
  | e :: r, k + 1, b, out, _, hl, hm => by
    have he := hm e (by simp)
    have hr := numE_range he r.isEmpty
    have hb := numE_bit he r.isEmpty
    have e1 : encB (e :: r) ++ b = digit (numE e r.isEmpty) 3 :: digit (numE e r.isEmpty) 2 :: digit (numE e r.isEmpty) 1 :: digit (numE e r.isEmpty) 0 :: (encB r ++ b) := by
      rw [encB, digits_four]
      rfl
    rw [e1, decGo, num4_digits hr.1 hr.2, hb.1, hb.2.1]
    cases r with
    | nil => simp [encB]
    | cons e' r' =>
      have ih := decGo_enc (e' :: r') k b (out ++ [e]) (by simp) (by simpa using hl) (fun x hx => hm x (by simp [hx]))
      simp only [List.isEmpty_cons, Bool.false_eq_true, if_false]
      rw [if_neg (by decide), ih, List.append_assoc]
      rfl
theorem decF_enc {l : List S24} (b : List Int) (h : l ≠ []) (hl : l.length ≤ 8) (hm : ∀ e ∈ l, mayP e) : decF (encB l ++ b) = (l, b, 0) := by
  unfold decF
  rw [decGo_enc l 8 b [] h hl hm]
  rfl
theorem decGo_back : ∀ (k : Nat) (l : List Int) (out m : List S24) (r : List Int), okB l → decGo k l out = (m, r, 0) → ∃ m', m = out ++ m' ∧ m' ≠ [] ∧ m'.length ≤ k ∧ (∀ e ∈ m', mayP e) ∧ encB m' ++ r = l
  | 0, l, out, m, r, _, h => by simp [decGo] at h
  | k + 1, [], out, m, r, _, h => by simp [decGo] at h
  | k + 1, [_], out, m, r, _, h => by simp [decGo] at h
  | k + 1, [_, _], out, m, r, _, h => by simp [decGo] at h
  | k + 1, [_, _, _], out, m, r, _, h => by simp [decGo] at h
  | k + 1, a :: b :: c :: d :: t, out, m, r, hb, h => by
    have ha := hb a (by simp)
    have hb' := hb b (by simp)
    have hc := hb c (by simp)
    have hd := hb d (by simp)
    have hmay := entF_may a b c d ha hb' hc hd
    rw [decGo] at h
    split at h
    · rename_i hbit
      have h' : out ++ [entF (num4 a b c d)] = m ∧ t = r := by simpa using h
      obtain ⟨rfl, rfl⟩ := h'
      refine ⟨[entF (num4 a b c d)], rfl, by simp, by simp, fun e he => by simp at he; subst he; exact hmay, ?_⟩
      rw [encB, List.isEmpty_nil, digits_num4 a b c d ha hb' hc hd true (by simpa using hbit)]
      rfl
    · rename_i hbit
      obtain ⟨m', rfl, hne, hl, hm, he⟩ := decGo_back k t _ m r (fun x hx => hb x (by simp [hx])) h
      refine ⟨entF (num4 a b c d) :: m', by simp, by simp, by simp; omega, fun e he => ?_, ?_⟩
      · rcases List.mem_cons.1 he with rfl | he
        · exact hmay
        · exact hm e he
      · have hemp : m'.isEmpty = false := by
          cases m' with
          | nil => exact absurd rfl hne
          | cons _ _ => rfl
        rw [encB, hemp, digits_num4 a b c d ha hb' hc hd false (by simp; omega), ← he]
        rfl
theorem decF_back {l : List Int} {m : List S24} {r : List Int} (hb : okB l) (h : decF l = (m, r, 0)) : m ≠ [] ∧ m.length ≤ 8 ∧ (∀ e ∈ m, mayP e) ∧ encB m ++ r = l := by
  obtain ⟨m', rfl, h1, h2, h3, h4⟩ := decGo_back 8 l [] m r hb h
  exact ⟨h1, h2, h3, h4⟩
theorem decode_f {l : List Int} (hl : l.length ≤ 140737488355328) (hb : okB l) : shim_Decode.f l = some (decF l) := by
  unfold shim_Decode.f
  rw [if_pos ⟨hl, hb⟩]

theorem same_go (l : List S24) (hl : l.length ≤ 4096) : ∀ (m i : Nat), m + i = l.length → Ev (fun k => viaductref03_Same.l0 k l l (i : Int)) true
  | 0, i, hi => by
    refine Ev.step (f := fun _ => some true) (fun k => ?_) (Ev.now _)
    simp only [viaductref03_Same.l0]
    rw [if_neg (by omega)]
  | m + 1, i, hi => by
    refine Ev.step (f := fun k => viaductref03_Same.l0 k l l ((i + 1 : Nat) : Int)) (fun k => ?_) (same_go l hl m (i + 1) (by omega))
    simp only [viaductref03_Same.l0]
    rw [if_pos (by omega), if_pos (by omega), if_pos (by omega)]
    simp only [beq_self_eq_true, Bool.not_true, Bool.or_false, Bool.false_eq_true, if_false]
    rw [wrap64_id (by omega) (by omega)]
    rfl
theorem same_ev (l : List S24) (hl : l.length ≤ 4096) : Ev (fun k => viaductref03_Same.f k l l) true := by
  refine Ev.congr (f := fun k => viaductref03_Same.l0 k l l ((0 : Nat) : Int)) (fun k => ?_) (same_go l hl l.length 0 (by omega))
  unfold viaductref03_Same.f
  rw [if_pos rfl]
  rfl
theorem encB_drop : ∀ (l : List S24) (i : Nat), i ≤ l.length → (encB l).drop (4 * i) = encB (l.drop i)
  | l, 0, _ => by simp
  | [], i + 1, h => by simp at h
  | e :: r, i + 1, h => by
    have e4 : (digits (numE e r.isEmpty) 4).length = 4 := digits_length _ _
    rw [encB, List.drop_succ_cons, show 4 * (i + 1) = (digits (numE e r.isEmpty) 4).length + 4 * i by rw [e4]; omega, List.drop_length_add_append]
    exact encB_drop r i (by simpa using h)
theorem encB_at (l : List S24) (i j : Nat) (hi : i < l.length) (hj : j < 4) : rd (encB l) ((4 * i + j : Nat) : Int) = digit (numE l[i] (l.drop (i + 1)).isEmpty) (3 - j) := by
  have h1 : rd (encB l) ((4 * i + j : Nat) : Int) = ((encB l).drop (4 * i))[j]?.getD 0 := by
    rw [List.getElem?_drop]
    show (encB l).getD ((4 * i + j : Nat) : Int).toNat 0 = _
    rw [Int.toNat_natCast, List.getD_eq_getElem?_getD]
  rw [h1, encB_drop l i (by omega), enc_step l i hi, encB, digits_four]
  have : j = 0 ∨ j = 1 ∨ j = 2 ∨ j = 3 := by omega
  rcases this with rfl | rfl | rfl | rfl <;> rfl
end Go.Proofs.Ytppdmaeoipeefaa.Ref
