/- Contracts of octet.Put and octet.Pad. -/
import Derived.Test.YtkjfemkmooepnaaOct
namespace Go.Proofs.Ytkjfemkmooepnaa.Oct
open Go.RowKit Go.Proofs.YtkjfemkmooepnaaW.PrintWords Go.Proofs.YtkjfemkmooepnaaW.PrintLast Go.Proofs.YtkjfemkmooepnaaW.PrintMore
set_option linter.unusedVariables false
set_option linter.unusedSimpArgs false

def digit (u : Int) (i : Nat) : Int := (u / 2 ^ (8 * i)) % 256
/-- The bytes of u below place n, the highest first. -/
def digits (u : Int) : Nat → List Int
  | 0 => []
  | n + 1 => digit u n :: digits u n
theorem digits_length (u : Int) : ∀ n, (digits u n).length = n
  | 0 => rfl
  | n + 1 => by simp [digits, digits_length u n]
/-- What 'Put' answers: its error, and its bytes. -/
def putE (n u : Int) : Int := if 1 ≤ n ∧ n ≤ 8 then (if n < 8 ∧ u / 2 ^ (8 * n).toNat ≠ 0 then 3 else 0) else 2
def putB (l : List Int) (n u : Int) : List Int := if putE n u = 0 then l ++ digits u n.toNat else []

set_option maxHeartbeats 1600000 in
theorem put_calls {w : World} {A : Option Addr} {c : Nat} {l : List Int} (hr : Kd.C (Kd.int .u8) w A l.length l) (hc : l.length ≤ c) (hl : l.length ≤ 140737488355000) (n u : Int) (hn1 : 1 ≤ n) (hn8 : n ≤ 8) (hu : n < 8 → u / 2 ^ (8 * n).toNat = 0) :
    Calls Try.prog 10 #[.slice A l.length c, .int .i64 n, .int .u64 u] w fun e w' => ∃ v, e = .returned (.tuple #[v, .int .i64 0]) ∧ Kd.R (Kd.int .u8) 5 w' w.heap.size (fun _ => True) v (l ++ digits u n.toNat) ∧ Below w.heap.size w w' := by
  have HR := Aside0.mk hr
  clear hr
  have hcase : (n < 8 ∧ (u / 2 ^ (8 * n).toNat != 0) = false) ∨ ¬ n < 8 := by
    by_cases h8 : n < 8
    · exact .inl ⟨h8, by simp [hu h8]⟩
    · exact .inr h8
  clear hu
  rcases hcase with ⟨h8, hq⟩ | h8
  all_goals
    go_enter Try.func10, Try.ntmps10
    go_wp2_with (first
      | (at_make; refine R_makeCap (Kd.int .u8) (w0 := w) w.heap.size 5 (fun _ => True) rfl 22 _ _ rfl (↑l.length + n) rfl rfl Try.underlying22 (.int .u8 0) 1 info5 (by decide) trivial ?mA ?mB (Below.refl _ _) (Nat.le_refl _) ?_; (case mA => omega); (case mB => omega); intro v1 w1 ho hb hg hat; have HO := Aside0.mk ho; have HB := Aside0.mk hb; clear ho hb hg hat; obtain ⟨Ao, co, eo⟩ := Kd.R_slice HO.out; subst eo)
      | (at_builtin; refine Kd.R_append_rows (Kd.int .u8) (w0 := w) w.heap.size rfl (.tmp 31) (.tmp 32) 22 5 (.int .u8 0) 1 rfl Try.underlying22 info5 rfl (by decide) (by omega) _ [] l A l.length c (fun _ => True) (fun _ => False) rfl rfl HO.out (Kd.C_below HR.out HB.out) (fun _ _ h => h) (fun _ h => h.elim) (fun _ _ => trivial) HB.out HB.out.size ?aL ?_; (case aL => simp only [List.length_nil]; omega); intro v2 w2 ho hb hg hat; rw [List.nil_append] at ho; clear HO HB; have HO := Aside0.mk ho; have HB := Aside0.mk hb; clear ho hb hg hat))
    go_loopw [8, 9] (fun v i wr => ∃ (j : Nat) (xs : List Int), j ≤ 8 ∧ i = .int .i64 ((j : Int) - 1) ∧ Aside0 (xs ++ digits u j = l ++ digits u n.toNat) ∧ Aside0 (Kd.R (Kd.int .u8) 5 wr w.heap.size (fun _ => True) v xs) ∧ Aside0 (Below w.heap.size w wr)) (fun _ i _ => (intOf i + 1).toNat)
    case atStart => exact ⟨n.toNat, l, by omega, by go_num, ⟨rfl⟩, HO, HB⟩
    case round =>
      clear HO HB
      obtain ⟨j, xs, hj, rfl, HX, HO, HB⟩ := hrel
      cases j with
      | zero =>
        go_wp2
        go_ret2
        exact ⟨_, rfl, by have := HX.out; simp only [digits, List.append_nil] at this; rw [← this]; exact HO.out, HB.out⟩
      | succ j =>
        have hlen : xs.length ≤ 140737488355300 := by
          have := congrArg List.length HX.out
          simp only [List.length_append, digits_length] at this
          omega
        have hj' : ((j + 1 : Nat) : Int) - 1 = (j : Int) := by omega
        rw [hj']
        clear hj'
        have hs : (8 * (j : Int)).toNat = 8 * j := by omega
        have HS := Aside0.mk hs
        clear hs
        go_wp2_with (at_builtin; refine Kd.R_append (Kd.int .u8) (w0 := w) w.heap.size rfl (.tmp 40) (.tmp 46) 22 5 (.int .u8 0) 1 rfl Try.underlying22 info5 rfl (by decide) (by omega) _ xs (digit u j) [.int .u8 (digit u j)] (fun _ => True) (fun _ => False) rfl rfl rfl (fun _ h => h.elim) (fun _ _ => trivial) HO.out HB.out HB.out.size ?aM ?_; (case aM => omega); intro v3 w3 ho hb hg hat; have HO1 := Aside0.mk ho; have HB1 := Aside0.mk hb; clear ho hb hg hat)
        go_roundw
        case rel => exact ⟨j, xs ++ [digit u j], by omega, rfl, ⟨by have := HX.out; rw [← this]; simp [digits]⟩, HO1, HB1⟩
        case measure => simp [intOf]
theorem putE_ok {n u : Int} (hn1 : 1 ≤ n) (hn8 : n ≤ 8) (hu : n < 8 → u / 2 ^ (8 * n).toNat = 0) : putE n u = 0 := by
  unfold putE
  rw [if_pos ⟨hn1, hn8⟩, if_neg (fun h => h.2 (hu h.1))]

/-- 'Put', whatever it is asked. -/
theorem put_any {w : World} {A : Option Addr} {c : Nat} {l : List Int} (hr : Kd.C (Kd.int .u8) w A l.length l) (hc : l.length ≤ c) (hl : l.length ≤ 140737488355000) (n u : Int) :
    Calls Try.prog 10 #[.slice A l.length c, .int .i64 n, .int .u64 u] w fun e w' => ∃ v, e = .returned (.tuple #[v, .int .i64 (putE n u)]) ∧ Kd.R (Kd.int .u8) 5 w' w.heap.size (fun _ => True) v (putB l n u) ∧ Below w.heap.size w w' := by
  by_cases h1 : 1 ≤ n
  · by_cases h8 : n ≤ 8
    · by_cases hu : n < 8 ∧ u / 2 ^ (8 * n).toNat ≠ 0
      · have e0 : putE n u = 3 := by unfold putE; rw [if_pos ⟨h1, h8⟩, if_pos hu]
        have e1 : putB l n u = [] := by unfold putB; rw [e0]; simp
        rw [e0, e1]
        clear e0 e1
        obtain ⟨hlt, hne⟩ := hu
        have hq : (u / 2 ^ (8 * n).toNat != 0) = true := by simp [hne]
        clear hr hne
        go_enter Try.func10, Try.ntmps10
        go_wp2
        go_ret2
        exact ⟨_, rfl, Kd.R_nil _ _ _ _ _, Below.refl _ _⟩
      · have hu' : n < 8 → u / 2 ^ (8 * n).toNat = 0 := fun h => Decidable.byContradiction fun h' => hu ⟨h, h'⟩
        have e0 := putE_ok h1 h8 hu'
        have e1 : putB l n u = l ++ digits u n.toNat := by unfold putB; rw [e0]; simp
        rw [e0, e1]
        exact put_calls hr hc hl n u h1 h8 hu'
    · have e0 : putE n u = 2 := by unfold putE; rw [if_neg (fun h => h8 h.2)]
      have e1 : putB l n u = [] := by unfold putB; rw [e0]; simp
      rw [e0, e1]
      clear e0 e1 hr
      go_enter Try.func10, Try.ntmps10
      go_wp2
      go_ret2
      exact ⟨_, rfl, Kd.R_nil _ _ _ _ _, Below.refl _ _⟩
  · have e0 : putE n u = 2 := by unfold putE; rw [if_neg (fun h => h1 h.1)]
    have e1 : putB l n u = [] := by unfold putB; rw [e0]; simp
    rw [e0, e1]
    clear e0 e1 hr
    go_enter Try.func10, Try.ntmps10
    go_wp2
    go_ret2
    exact ⟨_, rfl, Kd.R_nil _ _ _ _ _, Below.refl _ _⟩
/-- What 'Pad' answers. -/
def padF (l : List Int) : List Int := l ++ List.replicate ((l.length + 3) / 4 * 4 - l.length) 0
set_option maxHeartbeats 800000 in
theorem pad_calls {w : World} {A : Option Addr} {c : Nat} {l : List Int} (hr : Kd.C (Kd.int .u8) w A l.length l) (hc : l.length ≤ c) (hl : l.length ≤ 140737488355000) :
    Calls Try.prog 12 #[.slice A l.length c] w fun e w' => ∃ v, e = .returned v ∧ Kd.R (Kd.int .u8) 5 w' w.heap.size (fun _ => True) v (padF l) ∧ Below w.heap.size w w' := by
  have HR := Aside0.mk hr
  clear hr
  have hi5 : (Try.prog.info? 5).map (·.size) = some 1 := by
    obtain ⟨i5, hi5, _, hs5, _⟩ := info_parts info5
    rw [hi5]; simp [hs5]
  have HI := Aside0.mk hi5
  clear hi5
  have hN : (((l.length : Int) + 3) / 4 * 4).toNat = (l.length + 3) / 4 * 4 := by omega
  have HN := Aside0.mk hN
  clear hN
  obtain ⟨Z, hZ⟩ : ∃ Z, Z = List.replicate ((l.length + 3) / 4 * 4) (0 : Int) := ⟨_, rfl⟩
  have hZl : l.length ≤ Z.length := by rw [hZ, List.length_replicate]; omega
  have HZ := Aside0.mk hZ
  clear hZ
  go_enter Try.func12, Try.ntmps12
  go_wp2_with (first
    | (at_make; refine Kd.R_make (Kd.int .u8) (w0 := w) w.heap.size 5 rfl (N := 9) rfl 22 _ _ rfl ((↑l.length + 3) / 4 * 4) rfl rfl Try.underlying22 (.int .u8 0) 1 info5 rfl (by decide) (by decide) (0 : Int) (ok := fun _ => True) (okp := fun _ => False) rfl (fun _ h => h.elim) trivial ?mA ?mB (Below.refl _ _) (Nat.le_refl _) ?_; (case mA => omega); (case mB => omega); intro v1 w1 ho hb hg hat; rw [HN.out, ← HZ.out] at ho; have HO := Aside0.mk ho; have HB := Aside0.mk hb; clear ho hb hg hat; obtain ⟨Ao, co, eo⟩ := Kd.R_slice HO.out; subst eo)
    | ((with_reducible refine gate_builtin (b := .copy) (xs := #[.tmp 10, .tmp 11]) rfl ?_); refine R_copy .u8 (w0 := w) w.heap.size 5 (fun _ => True) rfl (.tmp 10) (.tmp 11) 22 rfl Try.underlying22 HI.out (.slice Ao Z.length co) Z l A c rfl rfl HO.out (Kd.C_below HR.out HB.out) ?cM HB.out ?_; (case cM => exact hZl); intro w2 ho hb hg; clear HO HB; have HO := Aside0.mk ho; have HB := Aside0.mk hb; clear ho hb hg))
  go_ret
  have hp : l ++ Z.drop l.length = padF l := by rw [HZ.out, List.drop_replicate]; rfl
  exact ⟨_, rfl, by rw [← hp]; exact HO.out, HB.out⟩
end Go.Proofs.Ytkjfemkmooepnaa.Oct
