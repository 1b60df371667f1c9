/- The plain laws of label stacks. No program here. -/
import Derived.Test.YtppdmaeoipeefaaRefDig
import Derived.Test.YtppdmaeoipeefaaGivShim
namespace Go.Proofs.Ytppdmaeoipeefaa.Ref
open Go.RowKit Go.Proofs.YtppdmaeoipeefaaW.PrintWords Go.Proofs.YtppdmaeoipeefaaW.PrintLast Go.Proofs.YtppdmaeoipeefaaW.PrintMore Go.Proofs.Ytppdmaeoipeefaa.Oct Go.Proofs.Ytppdmaeoipeefaa.Q Go.Proofs.Ytppdmaeoipeefaa.Giv
set_option linter.unusedVariables false

theorem rdT_at (l : List S24) (j : Nat) (h : j < l.length) : rd_T24 l (j : Int) = l[j] := by simp [rd_T24, List.getD_eq_getElem?_getD, List.getElem?_eq_getElem h]
def mayP (e : S24) : Prop := (0 ≤ e.f0 ∧ e.f0 ≤ 1048575) ∧ (0 ≤ e.f1 ∧ e.f1 ≤ 7) ∧ (0 ≤ e.f2 ∧ e.f2 ≤ 255)
instance (e : S24) : Decidable (mayP e) := by unfold mayP; exact inferInstance
theorem may_f (a b c : Int) : shim_May.f a b c = some (decide (mayP ⟨a, b, c⟩)) := by
  unfold shim_May.f shim_within.f mayP
  by_cases h0 : 0 ≤ a <;> by_cases h1 : a ≤ 1048575 <;> by_cases h2 : 0 ≤ b <;> by_cases h3 : b ≤ 7 <;> by_cases h4 : 0 ≤ c <;> by_cases h5 : c ≤ 255 <;> simp [h0, h1, h2, h3, h4, h5]
theorem refmay_f (a b c : Int) : viaductref03_May.f a b c = some (decide (mayP ⟨a, b, c⟩)) := by
  unfold viaductref03_May.f mayP
  by_cases h0 : 0 ≤ a <;> by_cases h1 : a ≤ 1048575 <;> by_cases h2 : 0 ≤ b <;> by_cases h3 : b ≤ 7 <;> by_cases h4 : 0 ≤ c <;> by_cases h5 : c ≤ 255 <;> simp [h0, h1, h2, h3, h4, h5]
/-- An entry's number. -/
def numE (e : S24) (last : Bool) : Int := e.f0 * 4096 + e.f1 * 512 + e.f2 + (if last = true then 256 else 0)
theorem numE_range {e : S24} (h : mayP e) (b : Bool) : 0 ≤ numE e b ∧ numE e b < 4294967296 := by
  unfold mayP at h
  unfold numE
  split <;> omega
/-- 'Encode' behind the bytes out. -/
def encGo : List S24 → List Int → List Int × Int
  | [], out => (out, 0)
  | e :: r, out => if mayP e then encGo r (out ++ digits (numE e r.isEmpty) 4) else ([], 2)
def encF (l : List S24) : List Int × Int := if (l.length : Int) > 8 then ([], 3) else encGo l []

theorem or_num {e : S24} (h : mayP e) : Go.bits .or .i64 (Go.bits .or .i64 (wrap64 (e.f0 * 4096)) (wrap64 (e.f1 * 512))) e.f2 = numE e false ∧ Go.bits .or .i64 (numE e false) 256 = numE e true := by
  obtain ⟨f0, f1, f2⟩ := e
  obtain ⟨⟨a0, a1⟩, ⟨b0, b1⟩, c0, c1⟩ := h
  simp only at a0 a1 b0 b1 c0 c1
  obtain ⟨a, rfl⟩ := Int.eq_ofNat_of_zero_le a0
  obtain ⟨b, rfl⟩ := Int.eq_ofNat_of_zero_le b0
  obtain ⟨c, rfl⟩ := Int.eq_ofNat_of_zero_le c0
  have e1 : wrap64 ((a : Int) * 4096) = ((a * 4096 : Nat) : Int) := by rw [wrap64_id (by omega) (by omega)]; omega
  have e2 : wrap64 ((b : Int) * 512) = ((b * 512 : Nat) : Int) := by rw [wrap64_id (by omega) (by omega)]; omega
  have j1 : a * 4096 ||| b * 512 = a * 4096 + b * 512 := nat_join 12 _ _ (by omega) (by omega)
  have j2 : (a * 4096 + b * 512) ||| c = a * 4096 + b * 512 + c := nat_join 9 _ _ (by omega) (by omega)
  have j3 : (256 : Nat) ||| c = 256 + c := nat_join 8 _ _ (by decide) (by omega)
  have j4 : (a * 4096 + b * 512) ||| (256 + c) = a * 4096 + b * 512 + (256 + c) := nat_join 9 _ _ (by omega) (by omega)
  have n1 : numE ⟨a, b, c⟩ false = ((a * 4096 + b * 512 + c : Nat) : Int) := by simp [numE]
  constructor
  · simp only
    rw [e1, e2, i64_or_nat _ _ (by omega) (by omega), j1, i64_or_nat _ _ (by omega) (by omega), j2, n1]
  · rw [n1, show (256 : Int) = ((256 : Nat) : Int) from rfl, i64_or_nat _ _ (by omega) (by omega), ← j2, Nat.or_assoc, Nat.or_comm c 256, j3, j4]
    simp [numE]
    omega
theorem sum_num {e : S24} (h : mayP e) : wrap64 ((wrap64 ((wrap64 (e.f0 * 4096)) + (wrap64 (e.f1 * 512)))) + e.f2) = numE e false ∧ wrap64 (numE e false + 256) = numE e true := by
  have hr := numE_range h false
  obtain ⟨f0, f1, f2⟩ := e
  obtain ⟨⟨a0, a1⟩, ⟨b0, b1⟩, c0, c1⟩ := h
  simp only at a0 a1 b0 b1 c0 c1
  simp only
  constructor
  · rw [wrap64_id (x := f0 * 4096) (by omega) (by omega), wrap64_id (x := f1 * 512) (by omega) (by omega), wrap64_id (x := f0 * 4096 + f1 * 512) (by omega) (by omega), wrap64_id (by omega) (by omega)]
    simp [numE]
  · rw [wrap64_id (by omega) (by omega)]
    simp [numE]
theorem put_four {out : List Int} (ho : out.length ≤ 4096) {u : Int} (h0 : 0 ≤ u) (h1 : u < 4294967296) : octet_Put.f out 4 (IntKind.u64.wrap u) = some (out ++ digits u 4, 0) := by
  have e : u / 4294967296 = 0 := by omega
  have hE : putE 4 u = 0 := by
    unfold putE
    rw [if_pos (by omega), if_neg]
    intro h
    exact h.2 e
  unfold octet_Put.f
  rw [if_pos (by omega), wrapu64_id h0 (by omega), hE]
  unfold putB
  rw [if_pos hE]
  rfl

theorem enc_step (l : List S24) (i : Nat) (hi : i < l.length) : l.drop i = l[i] :: l.drop (i + 1) := List.drop_eq_getElem_cons hi
theorem last_at (l : List S24) (i : Nat) (hi : i < l.length) : (l.drop (i + 1)).isEmpty = true ↔ i + 1 = l.length := by
  rw [List.isEmpty_iff, List.drop_eq_nil_iff]
  omega

theorem enc_ev (l : List S24) (hl : l.length ≤ 8) : ∀ (m i : Nat) (out : List Int), m + i = l.length → out.length + 4 * m ≤ 32 → Ev (fun k => shim_Encode.l0 k l out l (l.length : Int) (i : Int)) (encGo (l.drop i) out)
  | 0, i, out, hi, ho => by
    obtain rfl : i = l.length := by omega
    refine Ev.step (f := fun _ => some (out, 0)) (fun k => ?_) (by rw [List.drop_length]; exact Ev.now _)
    simp only [shim_Encode.l0]
    rw [if_neg (by omega)]
  | m + 1, i, out, hi, ho => by
    have hlt : i < l.length := by omega
    have ih := enc_ev l hl m (i + 1) (out ++ digits (numE l[i] (l.drop (i + 1)).isEmpty) 4) (by omega) (by rw [List.length_append, digits_length]; omega)
    rw [enc_step l i hlt]
    have hw : wrap64 ((i : Int) + 1) = ((i + 1 : Nat) : Int) := by rw [wrap64_id (by omega) (by omega)]; omega
    by_cases hm : mayP l[i]
    · have e : encGo (l[i] :: l.drop (i + 1)) out = encGo (l.drop (i + 1)) (out ++ digits (numE l[i] (l.drop (i + 1)).isEmpty) 4) := by rw [encGo, if_pos hm]
      rw [e]
      refine Ev.step (f := fun k => shim_Encode.l0 k l (out ++ digits (numE l[i] (l.drop (i + 1)).isEmpty) 4) l (l.length : Int) ((i + 1 : Nat) : Int)) (fun k => ?_) ih
      have hn := or_num hm
      have hr := numE_range hm false
      have hr' := numE_range hm true
      simp only [shim_Encode.l0]
      rw [if_pos (by omega), if_pos (by omega), if_pos (by omega), rdT_at l i hlt, may_f]
      have hd : decide (mayP ⟨l[i].f0, l[i].f1, l[i].f2⟩) = true := decide_eq_true hm
      simp only [hd, Option.bind_some, if_true]
      rw [hn.1, hn.2, put_four (by omega) hr.1 hr.2, put_four (by omega) hr'.1 hr'.2, hw, wrap64_id (x := (l.length : Int) - 1) (by omega) (by omega)]
      by_cases hz : i + 1 = l.length
      · have hz' := (last_at l i hlt).2 hz
        rw [if_pos (by omega), hz']
        rfl
      · have hz' : (l.drop (i + 1)).isEmpty = false := by
          rw [Bool.eq_false_iff]
          exact fun h => hz ((last_at l i hlt).1 h)
        rw [if_neg (by omega), hz']
        rfl
    · have e : encGo (l[i] :: l.drop (i + 1)) out = ([], 2) := by rw [encGo, if_neg hm]
      rw [e]
      refine Ev.step (f := fun _ => some (([] : List Int), (2 : Int))) (fun k => ?_) (Ev.now _)
      simp only [shim_Encode.l0]
      rw [if_pos (by omega), if_pos (by omega), if_pos (by omega), rdT_at l i hlt, may_f]
      have hd : decide (mayP ⟨l[i].f0, l[i].f1, l[i].f2⟩) = false := decide_eq_false hm
      simp only [hd, Option.bind_some]
      rfl
theorem encode_ev (l : List S24) : Ev (fun k => shim_Encode.f k l) (encF l) := by
  by_cases h : (l.length : Int) > 8
  · refine Ev.congr (f := fun _ => some (([] : List Int), (3 : Int))) (fun k => ?_) (by unfold encF; rw [if_pos h]; exact Ev.now _)
    unfold shim_Encode.f
    rw [if_pos h]
  · have := enc_ev l (by omega) l.length 0 [] (by omega) (by simp; omega)
    refine Ev.congr (f := fun k => shim_Encode.l0 k l [] l (l.length : Int) ((0 : Nat) : Int)) (fun k => ?_) (by unfold encF; rw [if_neg h]; simpa using this)
    unfold shim_Encode.f
    rw [if_neg h]
    rfl
theorem refenc_ev (l : List S24) (hl : l.length ≤ 8) : ∀ (m i : Nat) (out : List Int), m + i = l.length → out.length + 4 * m ≤ 32 → Ev (fun k => viaductref03_Encode.l0 k l out (i : Int)) (encGo (l.drop i) out)
  | 0, i, out, hi, ho => by
    obtain rfl : i = l.length := by omega
    refine Ev.step (f := fun _ => some (out, 0)) (fun k => ?_) (by rw [List.drop_length]; exact Ev.now _)
    simp only [viaductref03_Encode.l0]
    rw [if_neg (by omega)]
  | m + 1, i, out, hi, ho => by
    have hlt : i < l.length := by omega
    have ih := refenc_ev l hl m (i + 1) (out ++ digits (numE l[i] (l.drop (i + 1)).isEmpty) 4) (by omega) (by rw [List.length_append, digits_length]; omega)
    rw [enc_step l i hlt]
    have hw : wrap64 ((i : Int) + 1) = ((i + 1 : Nat) : Int) := by rw [wrap64_id (by omega) (by omega)]; omega
    by_cases hm : mayP l[i]
    · have e : encGo (l[i] :: l.drop (i + 1)) out = encGo (l.drop (i + 1)) (out ++ digits (numE l[i] (l.drop (i + 1)).isEmpty) 4) := by rw [encGo, if_pos hm]
      rw [e]
      have hn := sum_num hm
      have hr := numE_range hm (l.drop (i + 1)).isEmpty
      have hg := digits_ev (numE l[i] (l.drop (i + 1)).isEmpty) hr.1 (by omega) 4 (by omega)
      refine Ev.step (f := fun k => (viaductref01_Digits.f k 4 (numE l[i] (l.drop (i + 1)).isEmpty)).bind fun t => if out.length + t.length < 140737488355328 then viaductref03_Encode.l0 k l (out ++ t) ((i + 1 : Nat) : Int) else none) (fun k => ?_) (Ev.bind hg ?_)
      · simp only [viaductref03_Encode.l0]
        rw [if_pos (by omega), if_pos (by omega), rdT_at l i hlt, refmay_f]
        have hd : decide (mayP ⟨l[i].f0, l[i].f1, l[i].f2⟩) = true := decide_eq_true hm
        simp only [hd, Option.bind_some, if_true]
        have hr0 := numE_range hm false
        have hr1 := numE_range hm true
        rw [hn.1, hn.2, hw, wrap64_id (x := (l.length : Int) - 1) (by omega) (by omega), wrapu64_id hr0.1 (by omega), wrapu64_id hr1.1 (by omega)]
        by_cases hz : i + 1 = l.length
        · have hz' := (last_at l i hlt).2 hz
          rw [if_pos (by omega), hz']
        · have hz' : (l.drop (i + 1)).isEmpty = false := by
            rw [Bool.eq_false_iff]
            exact fun h => hz ((last_at l i hlt).1 h)
          rw [if_neg (by omega), hz']
      · refine Ev.congr (fun k => ?_) ih
        rw [if_pos (by rw [digits_length]; omega)]
    · have e : encGo (l[i] :: l.drop (i + 1)) out = ([], 2) := by rw [encGo, if_neg hm]
      rw [e]
      refine Ev.step (f := fun _ => some (([] : List Int), (2 : Int))) (fun k => ?_) (Ev.now _)
      simp only [viaductref03_Encode.l0]
      rw [if_pos (by omega), if_pos (by omega), rdT_at l i hlt, refmay_f]
      have hd : decide (mayP ⟨l[i].f0, l[i].f1, l[i].f2⟩) = false := decide_eq_false hm
      simp only [hd, Option.bind_some]
      rfl
theorem refencode_ev (l : List S24) : Ev (fun k => viaductref03_Encode.f k l) (encF l) := by
  by_cases h : (l.length : Int) > 8
  · refine Ev.congr (f := fun _ => some (([] : List Int), (3 : Int))) (fun k => ?_) (by unfold encF; rw [if_pos h]; exact Ev.now _)
    unfold viaductref03_Encode.f
    rw [if_pos h]
  · have := refenc_ev l (by omega) l.length 0 [] (by omega) (by simp; omega)
    refine Ev.congr (f := fun k => viaductref03_Encode.l0 k l [] ((0 : Nat) : Int)) (fun k => ?_) (by unfold encF; rw [if_neg h]; simpa using this)
    unfold viaductref03_Encode.f
    rw [if_neg h]
    rfl
end Go.Proofs.Ytppdmaeoipeefaa.Ref
