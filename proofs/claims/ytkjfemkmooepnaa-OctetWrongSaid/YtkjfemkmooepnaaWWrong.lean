/- OctetWrong answers true. -/
import Derived.Test.YtkjfemkmooepnaaGivAlive01
import Derived.Test.YtkjfemkmooepnaaKnd01
import Derived.Deep.RegionWith
namespace Go.Proofs.Ytkjfemkmooepnaa.Walk
open Go.RowKit Go.Proofs.YtkjfemkmooepnaaW.PrintWords Go.Proofs.YtkjfemkmooepnaaW.PrintLast Go.Proofs.YtkjfemkmooepnaaW.PrintMore Go.Proofs.Ytkjfemkmooepnaa.Oct Go.Proofs.Ytkjfemkmooepnaa.Giv Go.Proofs.Ytkjfemkmooepnaa.Knd
set_option linter.unusedVariables false
set_option linter.unusedSimpArgs false

theorem take_key (l : List Int) (er n : Int) (b : Bool) : (takeE l er n b = 0 ∧ er = 0 ∧ (takeL l er n b).length ≤ l.length) ∨ (takeE l er n b ≠ 0 ∧ er = 0 ∧ takeO l er n b = [] ∧ takeL l er n b = l) ∨ (takeE l er n b = er ∧ er ≠ 0 ∧ takeO l er n b = [] ∧ takeL l er n b = l) := by
  unfold takeE takeL takeO
  by_cases h0 : er = 0
  · by_cases h1 : b = true
    · by_cases h2 : n ≤ (l.length : Int)
      · refine .inl ⟨by simp [h0, h1, h2], h0, ?_⟩
        rw [if_pos ⟨h0, h1, h2⟩, List.length_drop]
        omega
      · exact .inr (.inl ⟨by simp [h0, h1, h2], h0, by simp [h0, h1, h2], by simp [h0, h1, h2]⟩)
    · exact .inr (.inl ⟨by simp [h0, h1], h0, by simp [h0, h1], by simp [h0, h1]⟩)
  · exact .inr (.inr ⟨by simp [h0], h0, by simp [h0], by simp [h0]⟩)
theorem bytes_at {w : World} {base g : Nat} {ok : Nat → Prop} {l : List Int} {er : Int} (h : Rdr w base ok g l er) (n : Int) {O L : List Int} {E : Int} (hO : takeO l er n (decide (0 ≤ n)) = O) (hL : takeL l er n (decide (0 ≤ n)) = L) (hE : takeE l er n (decide (0 ≤ n)) = E) :
    Calls Try.prog 18 #[.pointer (some ⟨g, 0, none⟩), .int .i64 n] w fun e w' => ∃ A c, e = .returned (.slice A O.length c) ∧ Rdr w' base ok g L E ∧ w.grownBy w' (some g) := by
  subst hO; subst hL; subst hE
  refine (bytes_calls h n).mono ?_
  rintro e w' ⟨A, c, rfl, hc, hF, hR, hg⟩
  exact ⟨A, c, rfl, hR, hg⟩

set_option maxRecDepth 20000 in
set_option maxHeartbeats 4000000 in
theorem wrong_small {w : World} {A B : Option Addr} {c d : Nat} {l : List Int} {ops : List SO} (hr : Kd.C (Kd.int .u8) w A l.length l) (hc : l.length ≤ c) (hl : l.length ≤ 4096) (hr2 : Kd.C kO w B ops.length ops) (hc2 : ops.length ≤ d) (hd : d ≤ maxLen) :
    Calls Try.prog 7 #[.slice A l.length c, .slice B ops.length d] w fun e w' => e = .returned (.bool true) ∧ Below w.heap.size w w' := by
  unfold maxLen at hd
  have HR := Aside0.mk hr
  have HO := Aside0.mk hr2
  clear hr hr2
  go_enter Try.func7, Try.ntmps7
  go_wp2_with fail
  refine (viaductlaw01_alive.calls true _ rfl).mono ?_
  rintro e w1 ⟨rfl, hb⟩
  have HB1 := Aside0.mk hb
  clear hb
  go_wp2_with fail
  refine (new_calls (Kd.C_below HR.out HB1.out) hc (by omega)).mono ?_
  rintro e w2 ⟨g, rfl, hR, hb⟩
  have HR2 := Aside0.mk (hR.lower HB1.out.size)
  have HB2 := Aside0.mk (below_then HB1.out HB1.out.size hb)
  clear hR hb HB1
  go_wp2_with fail
  go_loopg [6] 64 (fun gk v6 w' => ∃ (i k : Nat) (rest : List Int) (er : Int), k = gk ∧ v6 = .int .i64 (i : Int) ∧ i + k = 64 ∧ i ≤ ops.length ∧ Aside0 (Rdr w' w.heap.size (fun _ => True) g rest er) ∧ Aside0 (Below w.heap.size w w'))
  case atStart => exact ⟨0, 64, l, 0, rfl, rfl, rfl, Nat.zero_le _, HR2, HB2⟩
  case round =>
    clear HR2 HB2
    obtain ⟨i, k, rest, er, rfl, rfl, hik, hio, HR2, HB2⟩ := hrel
    by_cases hi : i < ops.length ∧ i < 64
    · obtain ⟨h1, h2⟩ := hi
      obtain ⟨ad, hA, hx0, hx1⟩ := at_op (Kd.C_below HO.out HB2.out) i h1
      subst hA
      obtain ⟨⟨n, b⟩, hop⟩ : ∃ x, ops[i] = x := ⟨_, rfl⟩
      rw [hop] at hx0 hx1
      simp only at hx0 hx1
      clear hop
      obtain ⟨k, rfl⟩ : ∃ k', k = k' + 1 := ⟨k - 1, by omega⟩
      have HX0 := Aside0.mk hx0
      go_wp2_with fail
      refine (left_calls HR2.out).mono ?_
      rintro e w' ⟨rfl, rfl⟩
      go_wp2_with fail
      refine (err_calls HR2.out).mono ?_
      rintro e w' ⟨rfl, rfl⟩
      cases b with
      | true =>
        go_wp2_with fail
        rcases take_key rest er n (decide (0 ≤ n)) with ⟨t1, t2, t3⟩ | ⟨t1, t2, t3, t4⟩ | ⟨t1, t2, t3, t4⟩
        · subst t2
          obtain ⟨O, hO⟩ : ∃ O, takeO rest 0 n (decide (0 ≤ n)) = O := ⟨_, rfl⟩
          obtain ⟨L, hL⟩ : ∃ L, takeL rest 0 n (decide (0 ≤ n)) = L := ⟨_, rfl⟩
          rw [hL] at t3
          have T1 : Aside0 (takeE rest 0 n (decide (0 ≤ n)) = 0 ∧ takeO rest 0 n (decide (0 ≤ n)) = O ∧ takeL rest 0 n (decide (0 ≤ n)) = L) := ⟨t1, hO, hL⟩
          clear t1 hO hL
          refine (bytes_at HR2.out n (O := O) (L := L) (E := 0) T1.out.2.1 T1.out.2.2 T1.out.1).mono ?_
          rintro e w3 ⟨A9, c9, rfl, hR, hg⟩
          have HR3 := Aside0.mk hR
          have HB3 := Aside0.mk (HB2.out.grown hg HB2.out.size (by intro k hk; cases hk; exact HR2.out.1))
          clear hR hg HR2 HB2
          go_wp2_with (first | (go_at_call 16; refine (err_calls HR3.out).mono ?_; rintro e w' ⟨rfl, rfl⟩) | (go_at_call 17; refine (left_calls HR3.out).mono ?_; rintro e w' ⟨rfl, rfl⟩))
          go_roundg k
          case rel => exact ⟨i + 1, k, L, 0, rfl, by go_num, by omega, by omega, HR3, HB3⟩
          case measure => omega
        · subst t2
          obtain ⟨E, hE⟩ : ∃ E, takeE rest 0 n (decide (0 ≤ n)) = E := ⟨_, rfl⟩
          rw [hE] at t1
          have hx : (E != 0) = true := bne_iff_ne.mpr t1
          have T1 : Aside0 (takeO rest 0 n (decide (0 ≤ n)) = [] ∧ takeL rest 0 n (decide (0 ≤ n)) = rest ∧ takeE rest 0 n (decide (0 ≤ n)) = E) := ⟨t3, t4, hE⟩
          clear t1 t3 t4 hE
          refine (bytes_at HR2.out n (O := []) (L := rest) (E := E) T1.out.1 T1.out.2.1 T1.out.2.2).mono ?_
          rintro e w3 ⟨A9, c9, rfl, hR, hg⟩
          have HR3 := Aside0.mk hR
          have HB3 := Aside0.mk (HB2.out.grown hg HB2.out.size (by intro k hk; cases hk; exact HR2.out.1))
          clear hR hg HR2 HB2
          go_wp2_with (first | (go_at_call 16; refine (err_calls HR3.out).mono ?_; rintro e w' ⟨rfl, rfl⟩) | (go_at_call 17; refine (left_calls HR3.out).mono ?_; rintro e w' ⟨rfl, rfl⟩))
          go_roundg k
          case rel => exact ⟨i + 1, k, rest, E, rfl, by go_num, by omega, by omega, HR3, HB3⟩
          case measure => omega
        · have hx : (er != 0) = true := bne_iff_ne.mpr t2
          have T1 : Aside0 (takeO rest er n (decide (0 ≤ n)) = [] ∧ takeL rest er n (decide (0 ≤ n)) = rest ∧ takeE rest er n (decide (0 ≤ n)) = er) := ⟨t3, t4, t1⟩
          clear t1 t2 t3 t4
          refine (bytes_at HR2.out n (O := []) (L := rest) (E := er) T1.out.1 T1.out.2.1 T1.out.2.2).mono ?_
          rintro e w3 ⟨A9, c9, rfl, hR, hg⟩
          have HR3 := Aside0.mk hR
          have HB3 := Aside0.mk (HB2.out.grown hg HB2.out.size (by intro k hk; cases hk; exact HR2.out.1))
          clear hR hg HR2 HB2
          go_wp2_with (first | (go_at_call 16; refine (err_calls HR3.out).mono ?_; rintro e w' ⟨rfl, rfl⟩) | (go_at_call 17; refine (left_calls HR3.out).mono ?_; rintro e w' ⟨rfl, rfl⟩))
          go_roundg k
          case rel => exact ⟨i + 1, k, rest, er, rfl, by go_num, by omega, by omega, HR3, HB3⟩
          case measure => omega
      | false =>
        go_wp2_with fail
        rcases take_key rest er n (ub n) with ⟨t1, t2, t3⟩ | ⟨t1, t2, t3, t4⟩ | ⟨t1, t2, t3, t4⟩
        · subst t2
          obtain ⟨O, hO⟩ : ∃ O, takeO rest 0 n (ub n) = O := ⟨_, rfl⟩
          obtain ⟨L, hL⟩ : ∃ L, takeL rest 0 n (ub n) = L := ⟨_, rfl⟩
          rw [hL] at t3
          have T1 : Aside0 (takeE rest 0 n (ub n) = 0 ∧ takeO rest 0 n (ub n) = O ∧ takeL rest 0 n (ub n) = L) := ⟨t1, hO, hL⟩
          clear t1 hO hL
          refine (uint_at HR2.out n (v := uintF O) (L := L) (E := 0) (by rw [T1.out.2.1]) T1.out.2.2 T1.out.1).mono ?_
          rintro e w3 ⟨rfl, hR, hg⟩
          have HR3 := Aside0.mk hR
          have HB3 := Aside0.mk (HB2.out.grown hg HB2.out.size (by intro k hk; cases hk; exact HR2.out.1))
          clear hR hg HR2 HB2
          go_wp2_with (first | (go_at_call 16; refine (err_calls HR3.out).mono ?_; rintro e w' ⟨rfl, rfl⟩) | (go_at_call 17; refine (left_calls HR3.out).mono ?_; rintro e w' ⟨rfl, rfl⟩))
          go_roundg k
          case rel => exact ⟨i + 1, k, L, 0, rfl, by go_num, by omega, by omega, HR3, HB3⟩
          case measure => omega
        · subst t2
          obtain ⟨E, hE⟩ : ∃ E, takeE rest 0 n (ub n) = E := ⟨_, rfl⟩
          rw [hE] at t1
          have hx : (E != 0) = true := bne_iff_ne.mpr t1
          have T1 : Aside0 (takeO rest 0 n (ub n) = [] ∧ takeL rest 0 n (ub n) = rest ∧ takeE rest 0 n (ub n) = E) := ⟨t3, t4, hE⟩
          clear t1 t3 t4 hE
          refine (uint_at HR2.out n (v := 0) (L := rest) (E := E) (by rw [T1.out.1]; rfl) T1.out.2.1 T1.out.2.2).mono ?_
          rintro e w3 ⟨rfl, hR, hg⟩
          have HR3 := Aside0.mk hR
          have HB3 := Aside0.mk (HB2.out.grown hg HB2.out.size (by intro k hk; cases hk; exact HR2.out.1))
          clear hR hg HR2 HB2
          go_wp2_with (first | (go_at_call 16; refine (err_calls HR3.out).mono ?_; rintro e w' ⟨rfl, rfl⟩) | (go_at_call 17; refine (left_calls HR3.out).mono ?_; rintro e w' ⟨rfl, rfl⟩))
          go_roundg k
          case rel => exact ⟨i + 1, k, rest, E, rfl, by go_num, by omega, by omega, HR3, HB3⟩
          case measure => omega
        · have hx : (er != 0) = true := bne_iff_ne.mpr t2
          have T1 : Aside0 (takeO rest er n (ub n) = [] ∧ takeL rest er n (ub n) = rest ∧ takeE rest er n (ub n) = er) := ⟨t3, t4, t1⟩
          clear t1 t2 t3 t4
          refine (uint_at HR2.out n (v := 0) (L := rest) (E := er) (by rw [T1.out.1]; rfl) T1.out.2.1 T1.out.2.2).mono ?_
          rintro e w3 ⟨rfl, hR, hg⟩
          have HR3 := Aside0.mk hR
          have HB3 := Aside0.mk (HB2.out.grown hg HB2.out.size (by intro k hk; cases hk; exact HR2.out.1))
          clear hR hg HR2 HB2
          go_wp2_with (first | (go_at_call 16; refine (err_calls HR3.out).mono ?_; rintro e w' ⟨rfl, rfl⟩) | (go_at_call 17; refine (left_calls HR3.out).mono ?_; rintro e w' ⟨rfl, rfl⟩))
          go_roundg k
          case rel => exact ⟨i + 1, k, rest, er, rfl, by go_num, by omega, by omega, HR3, HB3⟩
          case measure => omega
    · by_cases h1 : i < ops.length
      · have h2 : ¬ i < 64 := fun h => hi ⟨h1, h⟩
        clear hi
        go_wp2_with fail
        go_ret
        exact ⟨rfl, HB2.out⟩
      · clear hi
        go_wp2_with fail
        go_ret
        exact ⟨rfl, HB2.out⟩

theorem wrong_big {w : World} {A B : Option Addr} {c d la lb : Nat} (hm : la ≤ maxLen) (hl : ¬ la ≤ 4096) :
    Calls Try.prog 7 #[.slice A la c, .slice B lb d] w fun e w' => e = .returned (.bool true) ∧ Below w.heap.size w w' := by
  unfold maxLen at hm
  go_enter Try.func7, Try.ntmps7
  go_wp2_with fail
  refine (viaductlaw01_alive.calls true _ rfl).mono ?_
  rintro e w1 ⟨rfl, hb⟩
  have HB1 := Aside0.mk hb
  clear hb
  go_wp2
  go_ret
  exact ⟨rfl, HB1.out⟩

theorem wrong_walk (A : Option Addr) (c : Nat) (l : List Int) (B : Option Addr) (d : Nat) (ops : List SO) (w : World) (hC : Kd.C (Kd.int .u8) w A l.length l) (hc : l.length ≤ c) (hm : c ≤ maxLen) (hw : ∀ y ∈ l, (Lit.int .u8 y).wf = true) (hy : l.length * 1 ≤ 140737488351232)
    (hC' : Kd.C kO w B ops.length ops) (hc' : ops.length ≤ d) (hm' : d ≤ maxLen) (hw' : ∀ y ∈ ops, (Lit.int .i64 y.f0).wf = true ∧ True) :
    Calls Try.prog 7 #[.slice A l.length c, .slice B ops.length d] w fun e w' => e = .returned (.bool true) ∧ Below w.heap.size w w' := by
  by_cases hl : l.length ≤ 4096
  · exact wrong_small hC hc hl hC' hc' hm'
  · exact wrong_big (Nat.le_trans hc hm) hl
end Go.Proofs.Ytkjfemkmooepnaa.Walk
