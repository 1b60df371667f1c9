/- The plain law of check sums: words with carry, told by the sum of all words. No program here. -/
import Derived.Test.YtdcildmjmbbmeaaQ1
import Derived.Test.YtdcildmjmbbmeaaGivAlive02
import Derived.Test.YtdcildmjmbbmeaaGivSum
namespace Go.Proofs.Ytdcildmjmbbmeaa.Ref
set_option linter.unusedVariables false
open Go.RowKit Go.Proofs.YtdcildmjmbbmeaaW.PrintWords Go.Proofs.YtdcildmjmbbmeaaW.PrintLast Go.Proofs.YtdcildmjmbbmeaaW.PrintMore Go.Proofs.Ytdcildmjmbbmeaa.Giv Go.Proofs.Ytdcildmjmbbmeaa.Q

theorem wrap64_id {x : Int} (h0 : -9223372036854775808 ≤ x) (h1 : x ≤ 9223372036854775807) : wrap64 x = x := by unfold wrap64; omega
theorem rd_at (l : List Int) (j : Nat) (h : j < l.length) : rd l (j : Int) = l[j] := by simp [rd, List.getD_eq_getElem?_getD, List.getElem?_eq_getElem h]
theorem okB_wf {l : List Int} (h : ∀ x ∈ l, (Lit.int .u8 x).wf = true) : okB l := fun x hx => bounds_u8 (h x hx)

/-- The sum of all words. -/
def vsum : List Int → Int
  | [] => 0
  | [x] => x * 256
  | x :: y :: r => x * 256 + y + vsum r
def norm (x : Int) : Int := if x = 0 then 0 else (x - 1) % 65535 + 1
theorem vsum_nonneg : ∀ (l : List Int), okB l → 0 ≤ vsum l
  | [], _ => by simp [vsum]
  | [x], h => by have := h x (by simp); simp only [vsum]; omega
  | x :: y :: r, h => by
    have hx := h x (by simp)
    have hy := h y (by simp)
    have := vsum_nonneg r (fun z hz => h z (by simp [hz]))
    simp only [vsum]
    omega
theorem norm_range {x : Int} (h : 0 ≤ x) : 0 ≤ norm x ∧ norm x ≤ 65535 := by unfold norm; split <;> omega
theorem norm_small {x : Int} (h : 0 ≤ x) (h1 : x ≤ 65535) : norm x = x := by unfold norm; split <;> omega
theorem addF_norm {x b : Int} (h : 0 ≤ x) (h2 : 0 ≤ b) (h3 : b ≤ 65535) : addF (norm x) b = norm (x + b) := by
  unfold addF norm
  split <;> split <;> split <;> omega
theorem wordsF_norm : ∀ (l : List Int) (x : Int), okB l → 0 ≤ x → wordsF l (norm x) = norm (x + vsum l)
  | [], x, _, _ => by simp [wordsF, vsum]
  | [a], x, h, h0 => by
    have ha := h a (by simp)
    simp only [wordsF, vsum]
    exact addF_norm h0 (by omega) (by omega)
  | a :: b :: r, x, h, h0 => by
    have ha := h a (by simp)
    have hb := h b (by simp)
    simp only [wordsF, vsum]
    rw [addF_norm h0 (by omega) (by omega), wordsF_norm r _ (fun z hz => h z (by simp [hz])) (by omega)]
    congr 1
    omega
theorem ofF_vsum (l : List Int) (h : okB l) : ofF l = 65535 - norm (vsum l) := by
  have := wordsF_norm l 0 h (by omega)
  have e : norm 0 = 0 := rfl
  rw [e] at this
  unfold ofF
  rw [this]
  congr 2
  omega
theorem ofF_range (l : List Int) (h : okB l) : 0 ≤ ofF l ∧ ofF l ≤ 65535 := by
  rw [ofF_vsum l h]
  have := norm_range (vsum_nonneg l h)
  omega
theorem addF_mix (x y : Int) (h : 0 ≤ x) (h2 : 0 ≤ y) : addF (norm x) (norm y) = norm (x + y) := by
  unfold addF norm
  split <;> split <;> split <;> split <;> omega
theorem vsum_append : ∀ (a b : List Int), a.length % 2 = 0 → vsum (a ++ b) = vsum a + vsum b
  | [], b, _ => by simp [vsum]
  | [x], b, h => by simp at h
  | x :: y :: r, b, h => by
    have := vsum_append r b (by simp only [List.length_cons] at h; omega)
    simp only [List.cons_append, vsum, this]
    omega
def wt (i : Nat) : Int := if i % 2 = 0 then 256 else 1
theorem vsum_set : ∀ (l : List Int) (i : Nat) (v : Int) (h : i < l.length), vsum (l.set i v) = vsum l + (v - l[i]) * wt i
  | [], i, v, h => by simp at h
  | [x], i, v, h => by
    obtain rfl : i = 0 := by simp at h; omega
    have e : wt 0 = 256 := rfl
    simp only [List.set_cons_zero, vsum, e, List.getElem_cons_zero]
    omega
  | x :: y :: r, 0, v, h => by
    have e : wt 0 = 256 := rfl
    simp only [List.set_cons_zero, vsum, e, List.getElem_cons_zero]
    omega
  | x :: y :: r, 1, v, h => by simp [vsum, wt]; omega
  | x :: y :: r, i + 2, v, h => by
    have hi : i < r.length := by simp only [List.length_cons] at h; omega
    have := vsum_set r i v hi
    have e : wt (i + 2) = wt i := by unfold wt; rw [show (i + 2) % 2 = i % 2 by omega]
    simp only [List.set_cons_succ, vsum, this, e, List.getElem_cons_succ]
    omega

theorem okB_set {l : List Int} (h : okB l) (i : Nat) {v : Int} (h0 : 0 ≤ v) (h1 : v ≤ 255) : okB (l.set i v) := fun x hx => by
  rcases List.mem_or_eq_of_mem_set hx with hx | rfl
  · exact h x hx
  · exact ⟨h0, h1⟩

theorem add_f {a b : Int} (h0 : 0 ≤ a) (h1 : a ≤ 65535) (h2 : 0 ≤ b) (h3 : b ≤ 65535) : sum_Add.f a b = some (addF a b) := by
  unfold sum_Add.f addF
  rw [IntKind.wrap_u16]
  congr 1
  split <;> omega
theorem refadd_f {a b : Int} (h0 : 0 ≤ a) (h1 : a ≤ 65535) (h2 : 0 ≤ b) (h3 : b ≤ 65535) : viaductref02_Add.f a b = some (addF a b) := by
  unfold viaductref02_Add.f addF
  rw [wrap64_id (x := a + b) (by omega) (by omega), wrap64_id (x := a + b - 65535) (by omega) (by omega)]
  by_cases h : a + b > 65535
  · rw [if_pos h, if_pos h]
  · rw [if_neg h, if_neg h]
theorem of_f {l : List Int} (hl : l.length ≤ 140737488351232) (h : okB l) : sum_Of.f l = some (ofF l) := by
  unfold sum_Of.f
  rw [if_pos ⟨hl, h⟩]
theorem right_f {l : List Int} (hl : l.length ≤ 140737488351232) (h : okB l) : sum_Right.f l = some (ofF l == 0) := by
  unfold sum_Right.f
  rw [of_f hl h]
  rfl
theorem alive02 : viaductlaw02_alive.f = some true := rfl

/-- The reference's loop, from place i on. -/
theorem refof_ev (l : List Int) (hb : okB l) (hl : l.length ≤ 4096) (m : Nat) : ∀ (i : Nat) (n : Int), l.length ≤ i + m → i ≤ l.length + 1 → 0 ≤ n → n ≤ 65535 → Ev (fun k => viaductref02_Of.l0 k l n (i : Int)) (65535 - wordsF (l.drop i) n) := by
  have done : ∀ (i : Nat) (n : Int), l.length ≤ i → i ≤ l.length + 1 → 0 ≤ n → n ≤ 65535 → Ev (fun k => viaductref02_Of.l0 k l n (i : Int)) (65535 - wordsF (l.drop i) n) := by
    intro i n hlt hi h0 h1
    have hd : l.drop i = [] := List.drop_eq_nil_of_le (by omega)
    rw [hd]
    refine Ev.step (f := fun _ => some (65535 - n)) (fun k => ?_) (by simpa [wordsF] using Ev.now (65535 - n))
    simp only [viaductref02_Of.l0]
    rw [if_neg (by omega), wrap64_id (by omega) (by omega)]
  induction m with
  | zero => exact fun i n hm hi h0 h1 => done i n (by omega) hi h0 h1
  | succ m' ih' =>
    intro i n hm hi h0 h1
    by_cases hlt : i < l.length
    · have hx := hb l[i] (List.getElem_mem hlt)
      have hr := rd_at l i hlt
      have e1 : wrap64 ((i : Int) + 1) = ((i + 1 : Nat) : Int) := by rw [wrap64_id (by omega) (by omega)]; omega
      have e2 : wrap64 ((i : Int) + 2) = ((i + 2 : Nat) : Int) := by rw [wrap64_id (by omega) (by omega)]; omega
      by_cases hlt2 : i + 1 < l.length
      · have hy := hb l[i + 1] (List.getElem_mem hlt2)
        have hr2 := rd_at l (i + 1) hlt2
        have hd : l.drop i = l[i] :: l[i + 1] :: l.drop (i + 2) := by rw [List.drop_eq_getElem_cons hlt, List.drop_eq_getElem_cons hlt2]
        have ha := addF_range h0 h1 (b := l[i] * 256 + l[i + 1]) (by omega) (by omega)
        have ih := ih' (i + 2) (addF n (l[i] * 256 + l[i + 1])) (by omega) (by omega) ha.1 ha.2
        rw [hd]
        refine Ev.step (f := fun k => viaductref02_Of.l0 k l (addF n (l[i] * 256 + l[i + 1])) ((i + 2 : Nat) : Int)) (fun k => ?_) (by simpa [wordsF] using ih)
        simp only [viaductref02_Of.l0]
        rw [if_pos (by omega), if_pos (by omega), e1, if_pos (by omega), if_pos (by omega), hr, hr2, e2, wrap64_id (x := l[i]) (by omega) (by omega), wrap64_id (x := l[i] * 256) (by omega) (by omega), wrap64_id (x := l[i + 1]) (by omega) (by omega), wrap64_id (by omega) (by omega), refadd_f h0 h1 (by omega) (by omega)]
        rfl
      · have hd : l.drop i = [l[i]] := by rw [List.drop_eq_getElem_cons hlt, List.drop_eq_nil_of_le (by omega)]
        have ha := addF_range h0 h1 (b := l[i] * 256) (by omega) (by omega)
        have ih := ih' (i + 2) (addF n (l[i] * 256)) (by omega) (by omega) ha.1 ha.2
        have hn : l.drop (i + 2) = [] := List.drop_eq_nil_of_le (by omega)
        rw [hn] at ih
        rw [hd]
        refine Ev.step (f := fun k => viaductref02_Of.l0 k l (addF n (l[i] * 256)) ((i + 2 : Nat) : Int)) (fun k => ?_) (by simpa [wordsF] using ih)
        simp only [viaductref02_Of.l0]
        rw [if_pos (by omega), if_pos (by omega), e1, if_neg (by omega), hr, e2, wrap64_id (x := l[i]) (by omega) (by omega), wrap64_id (x := l[i] * 256) (by omega) (by omega), refadd_f h0 h1 (by omega) (by omega)]
        rfl
    · exact done i n (by omega) hi h0 h1
theorem refOf_ev (l : List Int) (hb : okB l) (hl : l.length ≤ 4096) : Ev (fun k => viaductref02_Of.f k l) (ofF l) := by
  have := refof_ev l hb hl l.length 0 0 (by omega) (by omega) (by omega) (by omega)
  simpa [viaductref02_Of.f, ofF] using this
end Go.Proofs.Ytdcildmjmbbmeaa.Ref
