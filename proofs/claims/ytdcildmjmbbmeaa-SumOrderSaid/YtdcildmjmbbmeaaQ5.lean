-- By this claim's own program (wip/tools/pp.py), out of the translation. Not trusted: Lean checks it.
import Derived.Test.YtdcildmjmbbmeaaQ0
import Derived.Test.YtdcildmjmbbmeaaGivAlive02
import Derived.Test.YtdcildmjmbbmeaaGivSum
namespace Go.Proofs.Ytdcildmjmbbmeaa.Q
open Go.RowKit Go.Proofs.YtdcildmjmbbmeaaW.PrintWords Go.Proofs.YtdcildmjmbbmeaaW.PrintLast Go.Proofs.YtdcildmjmbbmeaaW.PrintMore
attribute [local go_sem] max2_int min2_int max_two min_two max_three min_three max_four min_four   -- for this text's walks alone
set_option linter.unusedVariables false
set_option linter.unusedSimpArgs false

open Go.Proofs.Ytdcildmjmbbmeaa.Giv
/-! ### viaductlaw02_SumOrder: function 7 -/
def viaductlaw02_SumOrder.j0 : Nat → List Int → Int → Int → Bool → Option (Bool)
  | 0, _, _, _, _ => none
  | k + 1, x0, x1, x2, x20 => if x20 = true then (some true) else (if ([] : List Int).length + x0.length < 140737488355328 then ((some (([] : List Int) ++ x0 : List Int)).bind fun y152 => (if (wrap64 ((y152.length : Int) / 2)) = 0 then (none) else (if 0 ≤ (wrap64 (2 * (Int.tmod (wrap64 (x2)) (wrap64 ((y152.length : Int) / 2))))) then (if (wrap64 (2 * (Int.tmod (wrap64 (x2)) (wrap64 ((y152.length : Int) / 2))))) < (x0.length : Int) then (if 0 ≤ (wrap64 ((wrap64 (2 * (Int.tmod (wrap64 (x2)) (wrap64 ((y152.length : Int) / 2))))) + 1)) then (if (wrap64 ((wrap64 (2 * (Int.tmod (wrap64 (x2)) (wrap64 ((y152.length : Int) / 2))))) + 1)) < (x0.length : Int) then (if 0 ≤ (wrap64 (2 * (Int.tmod (wrap64 (x1)) (wrap64 ((y152.length : Int) / 2))))) then (if (wrap64 (2 * (Int.tmod (wrap64 (x1)) (wrap64 ((y152.length : Int) / 2))))) < (x0.length : Int) then (if 0 ≤ (wrap64 ((wrap64 (2 * (Int.tmod (wrap64 (x1)) (wrap64 ((y152.length : Int) / 2))))) + 1)) then (if (wrap64 ((wrap64 (2 * (Int.tmod (wrap64 (x1)) (wrap64 ((y152.length : Int) / 2))))) + 1)) < (x0.length : Int) then (if (wrap64 (2 * (Int.tmod (wrap64 (x1)) (wrap64 ((y152.length : Int) / 2))))) < (y152.length : Int) then (if (wrap64 ((wrap64 (2 * (Int.tmod (wrap64 (x1)) (wrap64 ((y152.length : Int) / 2))))) + 1)) < (y152.length : Int) then (if (wrap64 (2 * (Int.tmod (wrap64 (x2)) (wrap64 ((y152.length : Int) / 2))))) < (y152.length : Int) then (if (wrap64 ((wrap64 (2 * (Int.tmod (wrap64 (x2)) (wrap64 ((y152.length : Int) / 2))))) + 1)) < (y152.length : Int) then ((sum_Of.f ((((y152.set ((wrap64 (2 * (Int.tmod (wrap64 (x1)) (wrap64 ((y152.length : Int) / 2))))) : Int).toNat (rd x0 (wrap64 (2 * (Int.tmod (wrap64 (x2)) (wrap64 ((y152.length : Int) / 2))))))).set ((wrap64 ((wrap64 (2 * (Int.tmod (wrap64 (x1)) (wrap64 ((y152.length : Int) / 2))))) + 1)) : Int).toNat (rd x0 (wrap64 ((wrap64 (2 * (Int.tmod (wrap64 (x2)) (wrap64 ((y152.length : Int) / 2))))) + 1)))).set ((wrap64 (2 * (Int.tmod (wrap64 (x2)) (wrap64 ((y152.length : Int) / 2))))) : Int).toNat (rd x0 (wrap64 (2 * (Int.tmod (wrap64 (x1)) (wrap64 ((y152.length : Int) / 2))))))).set ((wrap64 ((wrap64 (2 * (Int.tmod (wrap64 (x2)) (wrap64 ((y152.length : Int) / 2))))) + 1)) : Int).toNat (rd x0 (wrap64 ((wrap64 (2 * (Int.tmod (wrap64 (x1)) (wrap64 ((y152.length : Int) / 2))))) + 1))))).bind fun t163 => ((sum_Of.f x0).bind fun t164 => (some (t163 == t164)))) else (none)) else (none)) else (none)) else (none)) else (none)) else (none)) else (none)) else (none)) else (none)) else (none)) else (none)) else (none)))) else (none))
def viaductlaw02_SumOrder.f (k : Nat) (l0 : List Int) (a1 : Int) (a2 : Int) : Option (Bool) := (viaductlaw02_alive.f).bind fun t151 => (if t151 = true then (if (l0.length : Int) > 4096 then (viaductlaw02_SumOrder.j0 k l0 a1 a2 true) else (viaductlaw02_SumOrder.j0 k l0 a1 a2 (decide ((l0.length : Int) < 2)))) else (some false))
theorem viaductlaw02_SumOrder.mono_l : ∀ k, (∀ y0 y1 y2 y3, LeO (viaductlaw02_SumOrder.j0 k y0 y1 y2 y3) (viaductlaw02_SumOrder.j0 (k + 1) y0 y1 y2 y3))
  | 0 => fun _ _ _ _ r h => by simp [viaductlaw02_SumOrder.j0] at h
  | k + 1 => by
    have ih0 := viaductlaw02_SumOrder.mono_l k
    · intro y0 y1 y2 y3
      unfold viaductlaw02_SumOrder.j0
      repeat' first
      | (with_reducible exact ih0 _ _ _ _)
      | (with_reducible exact LeO.refl _)
      | (with_reducible exact LeO.none _)
      | (with_reducible refine LeO.ite ?_ ?_)
      | (with_reducible refine LeO.bind ?_ (fun _ => ?_))
      | exact ih0 _ _ _ _
      | exact LeO.none _
      | refine LeO.ite ?_ ?_
      | refine LeO.bind ?_ (fun _ => ?_)
theorem viaductlaw02_SumOrder.mono : ∀ a0 a1 a2 k, LeO (viaductlaw02_SumOrder.f k a0 a1 a2) (viaductlaw02_SumOrder.f (k + 1) a0 a1 a2) := by
  intro a0 a1 a2 k
  have ih0 := viaductlaw02_SumOrder.mono_l k
  unfold viaductlaw02_SumOrder.f
  repeat' first
      | (with_reducible exact ih0 _ _ _ _)
      | (with_reducible exact LeO.refl _)
      | (with_reducible exact LeO.none _)
      | (with_reducible refine LeO.ite ?_ ?_)
      | (with_reducible refine LeO.bind ?_ (fun _ => ?_))
      | exact ih0 _ _ _ _
      | exact LeO.none _
      | refine LeO.ite ?_ ?_
      | refine LeO.bind ?_ (fun _ => ?_)
def viaductlaw02_SumOrder.T7 : Bool × List (List Nat × List Nat) := (true, [([], []), ([0], [0]), ([], []), ([1, 2], [1, 2]), ([3], [3]), ([], []), ([5], [5]), ([], []), ([6, 7], [6, 7]), ([8], [8]), ([4, 0, 1, 2, 3, 4], [4]), ([9, 10, 0, 1, 2, 3, 4, 5, 6, 7, 8, 9, 10], [9])])
def viaductlaw02_SumOrder.B7 : List Nat := [0, 1, 0, 7, 15, 0, 32, 0, 224, 480, 31, 2047]
theorem viaductlaw02_SumOrder.tab7 : rtab .any (opsOf Try.f7 7) = viaductlaw02_SumOrder.T7 := by kernel_rfl
theorem viaductlaw02_SumOrder.bits7 : waitsOk viaductlaw02_SumOrder.T7.2 viaductlaw02_SumOrder.B7 = true := by kernel_rfl
def viaductlaw02_SumOrder.T8 : Bool × List (List Nat × List Nat) := (true, [([], []), ([], []), ([], []), ([], []), ([3], [3]), ([], []), ([], []), ([], []), ([], []), ([8], [8]), ([], []), ([], []), ([10, 11], [10, 11]), ([12], [12]), ([], []), ([], []), ([15], [15]), ([14, 16], [14, 16]), ([17], [17]), ([], []), ([], []), ([19, 20], [19, 20]), ([21], [21]), ([], []), ([], []), ([24], [24]), ([23, 25], [23, 25]), ([26], [26]), ([0, 1, 0, 1, 10, 11, 12, 13, 18, 22, 27], [0, 1]), ([28, 13, 0, 1, 10, 11, 12, 13, 18, 22, 27], [13, 28]), ([2, 4, 0, 1, 2, 3, 4, 10, 11, 12, 13, 14, 15, 16, 17, 18, 22, 27, 28, 29], [2, 4]), ([30, 18, 29, 0, 1, 2, 3, 4, 10, 11, 12, 13, 14, 15, 16, 17, 18, 22, 27, 28, 29], [18, 30]), ([5, 6, 0, 1, 2, 3, 4, 5, 6, 10, 11, 12, 13, 14, 15, 16, 17, 18, 19, 20, 21, 22, 27, 28, 29, 30, 31], [5, 6]), ([32, 22, 31, 0, 1, 2, 3, 4, 5, 6, 10, 11, 12, 13, 14, 15, 16, 17, 18, 19, 20, 21, 22, 27, 28, 29, 30, 31], [22, 32]), ([7, 9, 0, 1, 2, 3, 4, 5, 6, 7, 8, 9, 10, 11, 12, 13, 14, 15, 16, 17, 18, 19, 20, 21, 22, 23, 24, 25, 26, 27, 28, 29, 30, 31, 32, 33], [7, 9]), ([34, 27, 33, 0, 1, 2, 3, 4, 5, 6, 7, 8, 9, 10, 11, 12, 13, 14, 15, 16, 17, 18, 19, 20, 21, 22, 23, 24, 25, 26, 27, 28, 29, 30, 31, 32, 33], [27, 34])])
def viaductlaw02_SumOrder.B8 : List Nat := [0, 0, 0, 0, 8, 0, 0, 0, 0, 256, 0, 0, 3072, 7168, 0, 0, 32768, 114688, 245760, 0, 0, 1572864, 3670016, 0, 0, 16777216, 58720256, 125829120, 268434435, 536869891, 1073740831, 2147482655, 4294966399, 8589933695, 17179869183, 34359738367]
theorem viaductlaw02_SumOrder.tab8 : rtab .any (opsOf Try.f7 8) = viaductlaw02_SumOrder.T8 := by kernel_rfl
theorem viaductlaw02_SumOrder.bits8 : waitsOk viaductlaw02_SumOrder.T8.2 viaductlaw02_SumOrder.B8 = true := by kernel_rfl
set_option maxHeartbeats 8000000 in
set_option maxRecDepth 100000 in
theorem viaductlaw02_SumOrder.calls (k : Nat) (A0 : Option Addr) (c0 : Nat) (l0 : List Int) (a1 : Int) (a2 : Int) (r : Bool) (w : World) (hr0 : Kd.C (Kd.int .u8) w A0 l0.length l0) (hc0 : l0.length ≤ c0) (h : viaductlaw02_SumOrder.f k l0 a1 a2 = some r) :
    Calls Try.prog 7 #[.slice A0 l0.length c0, .int .u16 a1, .int .u16 a2] w fun e w' => e = .returned (.bool r) ∧ Below w.heap.size w w' := by
  have HR0 := Aside0.mk hr0
  have HC0 := Aside0.mk hc0
  clear hr0 hc0
  have HB := Aside0.mk (Below.refl w.heap.size w)
  have H : ((viaductlaw02_alive.f).bind fun t151 => (if t151 = true then (if (l0.length : Int) > 4096 then (viaductlaw02_SumOrder.j0 k l0 a1 a2 true) else (viaductlaw02_SumOrder.j0 k l0 a1 a2 (decide ((l0.length : Int) < 2)))) else (some false))) = some r := h
  clear h
  replace H := Option.bind_eq_some_iff.mp H
  obtain ⟨t151, A40, H⟩ := H
  replace H : (if t151 = true then (if (l0.length : Int) > 4096 then (viaductlaw02_SumOrder.j0 k l0 a1 a2 true) else (viaductlaw02_SumOrder.j0 k l0 a1 a2 (decide ((l0.length : Int) < 2)))) else (some false)) = some r := H
  have A4 := Aside0.mk A40
  clear A40
  by_cases c5 : t151 = true
  · subst c5
    have H1 : (if (l0.length : Int) > 4096 then (viaductlaw02_SumOrder.j0 k l0 a1 a2 true) else (viaductlaw02_SumOrder.j0 k l0 a1 a2 (decide ((l0.length : Int) < 2)))) = some r := by rw [if_pos rfl] at H; exact H
    clear H
    have H := H1
    clear H1
    have HC6 := Aside0.mk H
    clear H
    go_enter Try.func7, Try.ntmps7
    go_upto_region 3 with (first | ((with_reducible refine gate_callee (f := 9) rfl ?_); refine goesL_ (some 11) rfl rfl Try.func9 (by kernel_rfl) rfl #[] rfl (by (try simp only [List.map_toArray, List.map_cons, List.map_nil]); first | done | rfl | (simp only [List.length_drop, List.length_take]; rfl)) ?_; (with_reducible refine (viaductlaw02_alive.calls  true _ A4.out).mono ?_); rintro e w7 ⟨rfl, hb⟩; refine ⟨_, rfl, ?_⟩; have n0_ := Aside0.mk (below_step (by repeat (first | (with_reducible first | exact HB.out | apply below_alloc | apply pw_below_drewN | apply below_drew1) | exact HB.out)) hb); clear HB; have HB := n0_; clear n0_; (try clear hb); (try clear hb2); (try clear hk); (try clear hi)))
    (try simp only [Act.put, List.setIfInBounds_toArray, List.set_cons_zero, List.set_cons_succ])
    go_cut [20] (fun v20 wc => ∃ (kq : Nat) (x20_5 : Bool), v20 = .bool x20_5 ∧ Aside0 (viaductlaw02_SumOrder.j0 kq l0 a1 a2 x20_5 = some r) ∧ Aside0 (kq ≤ k) ∧ Aside0 (Below w.heap.size w wc))
    case first =>
      have H := HC6.out
      clear HC6
      by_cases c8 : (l0.length : Int) > 4096
      · rw [if_pos c8] at H
        have c8b0 : decide (4096 < (l0.length : Int)) = true := decide_eq_true c8
        have c8b1 : decide (4096 < l0.length) = true := decide_eq_true (by omega)
        clear c8
        (first | rw [c8b0] | (simp only [i64_w, i32_w]; rw [c8b0]) | skip)
        have H' := Aside0.mk H
        clear H
        go_wp2
        go_meet
        case rel => exact ⟨_, (true), (by first | rfl | (simp; done) | (simp [*]; done)), H', ⟨by first | omega | exact Nat.le_refl _⟩, ⟨by repeat (first | (with_reducible first | exact HB.out | apply below_alloc | apply pw_below_drewN | apply below_drew1) | exact HB.out)⟩⟩
      · rw [if_neg c8] at H
        have c8b0 : decide (4096 < (l0.length : Int)) = false := decide_eq_false c8
        have c8b1 : decide (4096 < l0.length) = false := decide_eq_false (by omega)
        clear c8
        (first | rw [c8b0] | (simp only [i64_w, i32_w]; rw [c8b0]) | skip)
        have H' := Aside0.mk H
        clear H
        go_wp2
        go_meet
        case rel => exact ⟨_, (decide ((l0.length : Int) < 2)), (by first | rfl | (simp; done) | (simp [*]; done)), H', ⟨by first | omega | exact Nat.le_refl _⟩, ⟨by repeat (first | (with_reducible first | exact HB.out | apply below_alloc | apply pw_below_drewN | apply below_drew1) | exact HB.out)⟩⟩
    case rest =>
      clear HC6
      try clear p2
      try clear c5
      try clear c7
      try clear c8
      try clear c8b0
      try clear c8b1
      obtain ⟨kq, x20_5, rfl, HA, HJ5, HB⟩ := hcut
      cases kq with
      | zero => exact absurd HA.out (by simp [viaductlaw02_SumOrder.j0])
      | succ kj5 =>
        have H := HA.out
        clear HA
        simp only [viaductlaw02_SumOrder.j0] at H
        by_cases c9 : x20_5 = true
        · subst c9
          have H1 : (some true) = some r := by rw [if_pos rfl] at H; exact H
          clear H
          have H := H1
          clear H1
          obtain rfl := Option.some.inj H
          go_wp2
          go_ret
          exact ⟨by first | rfl | (simp [errW_none, errW_some] <;> rfl) | (simp [*, errW_none, errW_some] <;> rfl), by repeat (first | (with_reducible first | exact HB.out | apply below_alloc | apply pw_below_drewN | apply below_drew1) | exact HB.out)⟩
        · replace c9 := Bool.eq_false_iff.mpr c9
          subst c9
          have H1 : (if ([] : List Int).length + l0.length < 140737488355328 then ((some (([] : List Int) ++ l0 : List Int)).bind fun y152 => (if (wrap64 ((y152.length : Int) / 2)) = 0 then (none) else (if 0 ≤ (wrap64 (2 * (Int.tmod (wrap64 (a2)) (wrap64 ((y152.length : Int) / 2))))) then (if (wrap64 (2 * (Int.tmod (wrap64 (a2)) (wrap64 ((y152.length : Int) / 2))))) < (l0.length : Int) then (if 0 ≤ (wrap64 ((wrap64 (2 * (Int.tmod (wrap64 (a2)) (wrap64 ((y152.length : Int) / 2))))) + 1)) then (if (wrap64 ((wrap64 (2 * (Int.tmod (wrap64 (a2)) (wrap64 ((y152.length : Int) / 2))))) + 1)) < (l0.length : Int) then (if 0 ≤ (wrap64 (2 * (Int.tmod (wrap64 (a1)) (wrap64 ((y152.length : Int) / 2))))) then (if (wrap64 (2 * (Int.tmod (wrap64 (a1)) (wrap64 ((y152.length : Int) / 2))))) < (l0.length : Int) then (if 0 ≤ (wrap64 ((wrap64 (2 * (Int.tmod (wrap64 (a1)) (wrap64 ((y152.length : Int) / 2))))) + 1)) then (if (wrap64 ((wrap64 (2 * (Int.tmod (wrap64 (a1)) (wrap64 ((y152.length : Int) / 2))))) + 1)) < (l0.length : Int) then (if (wrap64 (2 * (Int.tmod (wrap64 (a1)) (wrap64 ((y152.length : Int) / 2))))) < (y152.length : Int) then (if (wrap64 ((wrap64 (2 * (Int.tmod (wrap64 (a1)) (wrap64 ((y152.length : Int) / 2))))) + 1)) < (y152.length : Int) then (if (wrap64 (2 * (Int.tmod (wrap64 (a2)) (wrap64 ((y152.length : Int) / 2))))) < (y152.length : Int) then (if (wrap64 ((wrap64 (2 * (Int.tmod (wrap64 (a2)) (wrap64 ((y152.length : Int) / 2))))) + 1)) < (y152.length : Int) then ((sum_Of.f ((((y152.set ((wrap64 (2 * (Int.tmod (wrap64 (a1)) (wrap64 ((y152.length : Int) / 2))))) : Int).toNat (rd l0 (wrap64 (2 * (Int.tmod (wrap64 (a2)) (wrap64 ((y152.length : Int) / 2))))))).set ((wrap64 ((wrap64 (2 * (Int.tmod (wrap64 (a1)) (wrap64 ((y152.length : Int) / 2))))) + 1)) : Int).toNat (rd l0 (wrap64 ((wrap64 (2 * (Int.tmod (wrap64 (a2)) (wrap64 ((y152.length : Int) / 2))))) + 1)))).set ((wrap64 (2 * (Int.tmod (wrap64 (a2)) (wrap64 ((y152.length : Int) / 2))))) : Int).toNat (rd l0 (wrap64 (2 * (Int.tmod (wrap64 (a1)) (wrap64 ((y152.length : Int) / 2))))))).set ((wrap64 ((wrap64 (2 * (Int.tmod (wrap64 (a2)) (wrap64 ((y152.length : Int) / 2))))) + 1)) : Int).toNat (rd l0 (wrap64 ((wrap64 (2 * (Int.tmod (wrap64 (a1)) (wrap64 ((y152.length : Int) / 2))))) + 1))))).bind fun t163 => ((sum_Of.f l0).bind fun t164 => (some (t163 == t164)))) else (none)) else (none)) else (none)) else (none)) else (none)) else (none)) else (none)) else (none)) else (none)) else (none)) else (none)) else (none)))) else (none)) = some r := by rw [if_neg (show ¬ (false = true) by decide)] at H; exact H
          clear H
          have H := H1
          clear H1
          by_cases c10 : ([] : List Int).length + l0.length < 140737488355328
          · rw [if_pos c10] at H
            have LMc10 := Aside0.mk c10
            clear c10
            obtain ⟨y152, hy152⟩ : ∃ y_ : List Int, y_ = (([] : List Int) ++ l0) := ⟨_, rfl⟩
            replace H : (if (wrap64 ((y152.length : Int) / 2)) = 0 then (none) else (if 0 ≤ (wrap64 (2 * (Int.tmod (wrap64 (a2)) (wrap64 ((y152.length : Int) / 2))))) then (if (wrap64 (2 * (Int.tmod (wrap64 (a2)) (wrap64 ((y152.length : Int) / 2))))) < (l0.length : Int) then (if 0 ≤ (wrap64 ((wrap64 (2 * (Int.tmod (wrap64 (a2)) (wrap64 ((y152.length : Int) / 2))))) + 1)) then (if (wrap64 ((wrap64 (2 * (Int.tmod (wrap64 (a2)) (wrap64 ((y152.length : Int) / 2))))) + 1)) < (l0.length : Int) then (if 0 ≤ (wrap64 (2 * (Int.tmod (wrap64 (a1)) (wrap64 ((y152.length : Int) / 2))))) then (if (wrap64 (2 * (Int.tmod (wrap64 (a1)) (wrap64 ((y152.length : Int) / 2))))) < (l0.length : Int) then (if 0 ≤ (wrap64 ((wrap64 (2 * (Int.tmod (wrap64 (a1)) (wrap64 ((y152.length : Int) / 2))))) + 1)) then (if (wrap64 ((wrap64 (2 * (Int.tmod (wrap64 (a1)) (wrap64 ((y152.length : Int) / 2))))) + 1)) < (l0.length : Int) then (if (wrap64 (2 * (Int.tmod (wrap64 (a1)) (wrap64 ((y152.length : Int) / 2))))) < (y152.length : Int) then (if (wrap64 ((wrap64 (2 * (Int.tmod (wrap64 (a1)) (wrap64 ((y152.length : Int) / 2))))) + 1)) < (y152.length : Int) then (if (wrap64 (2 * (Int.tmod (wrap64 (a2)) (wrap64 ((y152.length : Int) / 2))))) < (y152.length : Int) then (if (wrap64 ((wrap64 (2 * (Int.tmod (wrap64 (a2)) (wrap64 ((y152.length : Int) / 2))))) + 1)) < (y152.length : Int) then ((sum_Of.f ((((y152.set ((wrap64 (2 * (Int.tmod (wrap64 (a1)) (wrap64 ((y152.length : Int) / 2))))) : Int).toNat (rd l0 (wrap64 (2 * (Int.tmod (wrap64 (a2)) (wrap64 ((y152.length : Int) / 2))))))).set ((wrap64 ((wrap64 (2 * (Int.tmod (wrap64 (a1)) (wrap64 ((y152.length : Int) / 2))))) + 1)) : Int).toNat (rd l0 (wrap64 ((wrap64 (2 * (Int.tmod (wrap64 (a2)) (wrap64 ((y152.length : Int) / 2))))) + 1)))).set ((wrap64 (2 * (Int.tmod (wrap64 (a2)) (wrap64 ((y152.length : Int) / 2))))) : Int).toNat (rd l0 (wrap64 (2 * (Int.tmod (wrap64 (a1)) (wrap64 ((y152.length : Int) / 2))))))).set ((wrap64 ((wrap64 (2 * (Int.tmod (wrap64 (a2)) (wrap64 ((y152.length : Int) / 2))))) + 1)) : Int).toNat (rd l0 (wrap64 ((wrap64 (2 * (Int.tmod (wrap64 (a1)) (wrap64 ((y152.length : Int) / 2))))) + 1))))).bind fun t163 => ((sum_Of.f l0).bind fun t164 => (some (t163 == t164)))) else (none)) else (none)) else (none)) else (none)) else (none)) else (none)) else (none)) else (none)) else (none)) else (none)) else (none)) else (none))) = some r := by first | (rw [hy152]; with_reducible exact H) | (have H2_ := (Option.bind_some _ _).symm.trans H; rw [hy152]; with_reducible exact H2_) | (have H2_ := (Option.bind_some _ _).symm.trans H; with_reducible exact H2_) | with_reducible exact H | (rw [hy152]; exact H) | exact H
            have Ny152 := Aside0.mk hy152
            clear hy152
            by_cases c11 : (wrap64 ((y152.length : Int) / 2)) = 0
            · rw [if_pos c11] at H
              exact absurd H (by simp)
            · rw [if_neg c11] at H
              have c11b0 : ((wrap64 ((y152.length : Int) / 2)) == 0) = false := beq_eq_false_iff_ne.mpr c11
              have c11b1 : ((wrap64 ((y152.length : Int) / 2)) != 0) = true := bne_iff_ne.mpr c11
              obtain ⟨ji12, hji12⟩ : ∃ j_ : Int, (wrap64 (2 * (Int.tmod (wrap64 (a2)) (wrap64 ((y152.length : Int) / 2))))) = j_ := ⟨_, rfl⟩
              replace H : (if 0 ≤ (ji12) then (if (ji12) < (l0.length : Int) then (if 0 ≤ (wrap64 ((ji12) + 1)) then (if (wrap64 ((ji12) + 1)) < (l0.length : Int) then (if 0 ≤ (wrap64 (2 * (Int.tmod (wrap64 (a1)) (wrap64 ((y152.length : Int) / 2))))) then (if (wrap64 (2 * (Int.tmod (wrap64 (a1)) (wrap64 ((y152.length : Int) / 2))))) < (l0.length : Int) then (if 0 ≤ (wrap64 ((wrap64 (2 * (Int.tmod (wrap64 (a1)) (wrap64 ((y152.length : Int) / 2))))) + 1)) then (if (wrap64 ((wrap64 (2 * (Int.tmod (wrap64 (a1)) (wrap64 ((y152.length : Int) / 2))))) + 1)) < (l0.length : Int) then (if (wrap64 (2 * (Int.tmod (wrap64 (a1)) (wrap64 ((y152.length : Int) / 2))))) < (y152.length : Int) then (if (wrap64 ((wrap64 (2 * (Int.tmod (wrap64 (a1)) (wrap64 ((y152.length : Int) / 2))))) + 1)) < (y152.length : Int) then (if (ji12) < (y152.length : Int) then (if (wrap64 ((ji12) + 1)) < (y152.length : Int) then ((sum_Of.f ((((y152.set ((wrap64 (2 * (Int.tmod (wrap64 (a1)) (wrap64 ((y152.length : Int) / 2))))) : Int).toNat (rd l0 (ji12))).set ((wrap64 ((wrap64 (2 * (Int.tmod (wrap64 (a1)) (wrap64 ((y152.length : Int) / 2))))) + 1)) : Int).toNat (rd l0 (wrap64 ((ji12) + 1)))).set ((ji12) : Int).toNat (rd l0 (wrap64 (2 * (Int.tmod (wrap64 (a1)) (wrap64 ((y152.length : Int) / 2))))))).set ((wrap64 ((ji12) + 1)) : Int).toNat (rd l0 (wrap64 ((wrap64 (2 * (Int.tmod (wrap64 (a1)) (wrap64 ((y152.length : Int) / 2))))) + 1))))).bind fun t163 => ((sum_Of.f l0).bind fun t164 => (some (t163 == t164)))) else (none)) else (none)) else (none)) else (none)) else (none)) else (none)) else (none)) else (none)) else (none)) else (none)) else (none)) else (none)) = some r := by first | (rw [hji12] at H; exact H) | (simp only [hji12] at H ⊢; exact H)
              have hji12w : (IntKind.i64.wrap (2 * (Int.tmod (wrap64 (a2)) (wrap64 ((y152.length : Int) / 2))))) = ji12 := (i64_w _).trans hji12
              by_cases c13 : 0 ≤ (ji12)
              · rw [if_pos c13] at H
                have c13b0 : decide (0 ≤ (ji12)) = true := decide_eq_true c13
                clear c13
                by_cases c14 : (ji12) < (l0.length : Int)
                · rw [if_pos c14] at H
                  have c14b0 : decide ((ji12) < (l0.length : Int)) = true := decide_eq_true c14
                  clear c14
                  obtain ⟨ji15, hji15⟩ : ∃ j_ : Int, (wrap64 ((ji12) + 1)) = j_ := ⟨_, rfl⟩
                  replace H : (if 0 ≤ (ji15) then (if (ji15) < (l0.length : Int) then (if 0 ≤ (wrap64 (2 * (Int.tmod (wrap64 (a1)) (wrap64 ((y152.length : Int) / 2))))) then (if (wrap64 (2 * (Int.tmod (wrap64 (a1)) (wrap64 ((y152.length : Int) / 2))))) < (l0.length : Int) then (if 0 ≤ (wrap64 ((wrap64 (2 * (Int.tmod (wrap64 (a1)) (wrap64 ((y152.length : Int) / 2))))) + 1)) then (if (wrap64 ((wrap64 (2 * (Int.tmod (wrap64 (a1)) (wrap64 ((y152.length : Int) / 2))))) + 1)) < (l0.length : Int) then (if (wrap64 (2 * (Int.tmod (wrap64 (a1)) (wrap64 ((y152.length : Int) / 2))))) < (y152.length : Int) then (if (wrap64 ((wrap64 (2 * (Int.tmod (wrap64 (a1)) (wrap64 ((y152.length : Int) / 2))))) + 1)) < (y152.length : Int) then (if (ji12) < (y152.length : Int) then (if (ji15) < (y152.length : Int) then ((sum_Of.f ((((y152.set ((wrap64 (2 * (Int.tmod (wrap64 (a1)) (wrap64 ((y152.length : Int) / 2))))) : Int).toNat (rd l0 (ji12))).set ((wrap64 ((wrap64 (2 * (Int.tmod (wrap64 (a1)) (wrap64 ((y152.length : Int) / 2))))) + 1)) : Int).toNat (rd l0 (ji15))).set ((ji12) : Int).toNat (rd l0 (wrap64 (2 * (Int.tmod (wrap64 (a1)) (wrap64 ((y152.length : Int) / 2))))))).set ((ji15) : Int).toNat (rd l0 (wrap64 ((wrap64 (2 * (Int.tmod (wrap64 (a1)) (wrap64 ((y152.length : Int) / 2))))) + 1))))).bind fun t163 => ((sum_Of.f l0).bind fun t164 => (some (t163 == t164)))) else (none)) else (none)) else (none)) else (none)) else (none)) else (none)) else (none)) else (none)) else (none)) else (none)) = some r := by first | (rw [hji15] at H; exact H) | (simp only [hji15] at H ⊢; exact H)
                  have hji15w : (IntKind.i64.wrap ((ji12) + 1)) = ji15 := (i64_w _).trans hji15
                  by_cases c16 : 0 ≤ (ji15)
                  · rw [if_pos c16] at H
                    have c16b0 : decide (0 ≤ (ji15)) = true := decide_eq_true c16
                    clear c16
                    by_cases c17 : (ji15) < (l0.length : Int)
                    · rw [if_pos c17] at H
                      have c17b0 : decide ((ji15) < (l0.length : Int)) = true := decide_eq_true c17
                      clear c17
                      obtain ⟨ji18, hji18⟩ : ∃ j_ : Int, (wrap64 (2 * (Int.tmod (wrap64 (a1)) (wrap64 ((y152.length : Int) / 2))))) = j_ := ⟨_, rfl⟩
                      replace H : (if 0 ≤ (ji18) then (if (ji18) < (l0.length : Int) then (if 0 ≤ (wrap64 ((ji18) + 1)) then (if (wrap64 ((ji18) + 1)) < (l0.length : Int) then (if (ji18) < (y152.length : Int) then (if (wrap64 ((ji18) + 1)) < (y152.length : Int) then (if (ji12) < (y152.length : Int) then (if (ji15) < (y152.length : Int) then ((sum_Of.f ((((y152.set ((ji18) : Int).toNat (rd l0 (ji12))).set ((wrap64 ((ji18) + 1)) : Int).toNat (rd l0 (ji15))).set ((ji12) : Int).toNat (rd l0 (ji18))).set ((ji15) : Int).toNat (rd l0 (wrap64 ((ji18) + 1))))).bind fun t163 => ((sum_Of.f l0).bind fun t164 => (some (t163 == t164)))) else (none)) else (none)) else (none)) else (none)) else (none)) else (none)) else (none)) else (none)) = some r := by first | (rw [hji18] at H; exact H) | (simp only [hji18] at H ⊢; exact H)
                      have hji18w : (IntKind.i64.wrap (2 * (Int.tmod (wrap64 (a1)) (wrap64 ((y152.length : Int) / 2))))) = ji18 := (i64_w _).trans hji18
                      by_cases c19 : 0 ≤ (ji18)
                      · rw [if_pos c19] at H
                        have c19b0 : decide (0 ≤ (ji18)) = true := decide_eq_true c19
                        clear c19
                        by_cases c20 : (ji18) < (l0.length : Int)
                        · rw [if_pos c20] at H
                          have c20b0 : decide ((ji18) < (l0.length : Int)) = true := decide_eq_true c20
                          clear c20
                          obtain ⟨ji21, hji21⟩ : ∃ j_ : Int, (wrap64 ((ji18) + 1)) = j_ := ⟨_, rfl⟩
                          replace H : (if 0 ≤ (ji21) then (if (ji21) < (l0.length : Int) then (if (ji18) < (y152.length : Int) then (if (ji21) < (y152.length : Int) then (if (ji12) < (y152.length : Int) then (if (ji15) < (y152.length : Int) then ((sum_Of.f ((((y152.set ((ji18) : Int).toNat (rd l0 (ji12))).set ((ji21) : Int).toNat (rd l0 (ji15))).set ((ji12) : Int).toNat (rd l0 (ji18))).set ((ji15) : Int).toNat (rd l0 (ji21)))).bind fun t163 => ((sum_Of.f l0).bind fun t164 => (some (t163 == t164)))) else (none)) else (none)) else (none)) else (none)) else (none)) else (none)) = some r := by first | (rw [hji21] at H; exact H) | (simp only [hji21] at H ⊢; exact H)
                          have hji21w : (IntKind.i64.wrap ((ji18) + 1)) = ji21 := (i64_w _).trans hji21
                          by_cases c22 : 0 ≤ (ji21)
                          · rw [if_pos c22] at H
                            have c22b0 : decide (0 ≤ (ji21)) = true := decide_eq_true c22
                            clear c22
                            by_cases c23 : (ji21) < (l0.length : Int)
                            · rw [if_pos c23] at H
                              have c23b0 : decide ((ji21) < (l0.length : Int)) = true := decide_eq_true c23
                              clear c23
                              by_cases c24 : (ji18) < (y152.length : Int)
                              · rw [if_pos c24] at H
                                have c24b0 : decide ((ji18) < (y152.length : Int)) = true := decide_eq_true c24
                                clear c24
                                obtain ⟨y159, hy159⟩ : ∃ y_ : List Int, y_ = (y152.set ((ji18) : Int).toNat (rd l0 (ji12))) := ⟨_, rfl⟩
                                replace H : (if (ji21) < (y152.length : Int) then (if (ji12) < (y152.length : Int) then (if (ji15) < (y152.length : Int) then ((sum_Of.f (((y159.set ((ji21) : Int).toNat (rd l0 (ji15))).set ((ji12) : Int).toNat (rd l0 (ji18))).set ((ji15) : Int).toNat (rd l0 (ji21)))).bind fun t163 => ((sum_Of.f l0).bind fun t164 => (some (t163 == t164)))) else (none)) else (none)) else (none)) = some r := by first | (rw [hy159]; with_reducible exact H) | (have H2_ := (Option.bind_some _ _).symm.trans H; rw [hy159]; with_reducible exact H2_) | (have H2_ := (Option.bind_some _ _).symm.trans H; with_reducible exact H2_) | with_reducible exact H | (rw [hy159]; exact H) | exact H
                                have Ny159 := Aside0.mk hy159
                                clear hy159
                                by_cases c26 : (ji21) < (y152.length : Int)
                                · rw [if_pos c26] at H
                                  have c26b0 : decide ((ji21) < (y152.length : Int)) = true := decide_eq_true c26
                                  clear c26
                                  obtain ⟨y160, hy160⟩ : ∃ y_ : List Int, y_ = (y159.set ((ji21) : Int).toNat (rd l0 (ji15))) := ⟨_, rfl⟩
                                  replace H : (if (ji12) < (y152.length : Int) then (if (ji15) < (y152.length : Int) then ((sum_Of.f ((y160.set ((ji12) : Int).toNat (rd l0 (ji18))).set ((ji15) : Int).toNat (rd l0 (ji21)))).bind fun t163 => ((sum_Of.f l0).bind fun t164 => (some (t163 == t164)))) else (none)) else (none)) = some r := by first | (rw [hy160]; with_reducible exact H) | (have H2_ := (Option.bind_some _ _).symm.trans H; rw [hy160]; with_reducible exact H2_) | (have H2_ := (Option.bind_some _ _).symm.trans H; with_reducible exact H2_) | with_reducible exact H | (rw [hy160]; exact H) | exact H
                                  have Ny160 := Aside0.mk hy160
                                  clear hy160
                                  by_cases c28 : (ji12) < (y152.length : Int)
                                  · rw [if_pos c28] at H
                                    have c28b0 : decide ((ji12) < (y152.length : Int)) = true := decide_eq_true c28
                                    clear c28
                                    obtain ⟨y161, hy161⟩ : ∃ y_ : List Int, y_ = (y160.set ((ji12) : Int).toNat (rd l0 (ji18))) := ⟨_, rfl⟩
                                    replace H : (if (ji15) < (y152.length : Int) then ((sum_Of.f (y161.set ((ji15) : Int).toNat (rd l0 (ji21)))).bind fun t163 => ((sum_Of.f l0).bind fun t164 => (some (t163 == t164)))) else (none)) = some r := by first | (rw [hy161]; with_reducible exact H) | (have H2_ := (Option.bind_some _ _).symm.trans H; rw [hy161]; with_reducible exact H2_) | (have H2_ := (Option.bind_some _ _).symm.trans H; with_reducible exact H2_) | with_reducible exact H | (rw [hy161]; exact H) | exact H
                                    have Ny161 := Aside0.mk hy161
                                    clear hy161
                                    by_cases c30 : (ji15) < (y152.length : Int)
                                    · rw [if_pos c30] at H
                                      have c30b0 : decide ((ji15) < (y152.length : Int)) = true := decide_eq_true c30
                                      clear c30
                                      obtain ⟨y162, hy162⟩ : ∃ y_ : List Int, y_ = (y161.set ((ji15) : Int).toNat (rd l0 (ji21))) := ⟨_, rfl⟩
                                      replace H : ((sum_Of.f y162).bind fun t163 => ((sum_Of.f l0).bind fun t164 => (some (t163 == t164)))) = some r := by first | (rw [hy162]; with_reducible exact H) | (have H2_ := (Option.bind_some _ _).symm.trans H; rw [hy162]; with_reducible exact H2_) | (have H2_ := (Option.bind_some _ _).symm.trans H; with_reducible exact H2_) | with_reducible exact H | (rw [hy162]; exact H) | exact H
                                      have Ny162 := Aside0.mk hy162
                                      clear hy162
                                      replace H := Option.bind_eq_some_iff.mp H
                                      obtain ⟨t163, A320, H⟩ := H
                                      replace H : ((sum_Of.f l0).bind fun t164 => (some (t163 == t164))) = some r := H
                                      have A32 := Aside0.mk A320
                                      clear A320
                                      replace H := Option.bind_eq_some_iff.mp H
                                      obtain ⟨t164, A330, H⟩ := H
                                      replace H : (some (t163 == t164)) = some r := H
                                      have A33 := Aside0.mk A330
                                      clear A330
                                      obtain rfl := Option.some.inj H
                                      try go_wp2_with (first | ((with_reducible refine gate_builtin (b := .append) (xs := #[.const (.slice none 0 0), .tmp 21]) rfl ?_); (try (refine gate_guard (by rfl) ?_; dsimp only)); at_builtin; refine Kd.R_append_rows (Kd.int .u8) (w0 := w) w.heap.size rfl (.const (.slice none 0 0)) (.tmp 21) 22 5 (.int .u8 0) 1 rfl Try.underlying22 info5 rfl (by decide) (by omega) (.slice none 0 0) ([] : List Int) l0 _ _ _ (fun _ => True) (fun _ => False) rfl rfl ?aO ?aR (fun _ _ h => h) (fun _ h => h.elim) ?aF ?aB ?aS ?aL ?_; (case aR => repeat (first | exact (Kd.C_below HR0.out HB.out) | (with_reducible refine Kd.C_alloc ?_ _) | (with_reducible refine Kd.C_drewN ?_ _) | (with_reducible refine Kd.C_drew ?_))); (case aB => exact (by repeat (first | (with_reducible first | exact HB.out | apply below_alloc | apply pw_below_drewN | apply below_drew1) | exact HB.out))); (case aF => exact (fun _ _ => trivial)); (case aO => exact ((Kd.R_nil _ _ _ _ (fun _ => True)))); (case aS => exact (below_size (by repeat (first | (with_reducible first | exact HB.out | apply below_alloc | apply pw_below_drewN | apply below_drew1) | exact HB.out)))); (case aL => have := LMc10.out; omega); intro v153 w34 ho hb hg hat; rw [← Ny152.out] at ho; have n0_ := Aside0.mk (hb); have n1_ := Aside0.mk (ho); clear HB; have HB := n0_; have HO154 := n1_; clear n0_ n1_; clear ho hb hg hat; obtain ⟨Ao35, co35, eo35⟩ := Kd.R_slice HO154.out; subst eo35))
                                      have n0_ := Aside0.mk (Kd.R_drew HO154.out)
                                      have n1_ := Aside0.mk (below_drew1 HB.out)
                                      clear HO154
                                      clear HB
                                      have HO154 := n0_
                                      have HB := n1_
                                      clear n0_ n1_
                                      refine start_ (n := 12) (S := fun w' => True) (ds := []) #[false, false, false, false, false, false, false, false, false, false, false, false] (by kernel_rfl) rfl rfl trivial (fun hHeld => ?_); refine with_tabW viaductlaw02_SumOrder.tab7 viaductlaw02_SumOrder.bits7 (fun HT_ HW_ => ?_)
                                      generalize w34.drew = w36 at HO154 HB hHeld ⊢
                                      refine pure_ (i := 0) (N := some 26) (v := ?_) (a' := ?_) #[true, false, false, false, false, false, false, false, false, false, false, false] rfl rfl (any_of HT_.out (by kernel_rfl)) (fun _ _ _ h => h) (Or.inl ⟨by rfl, ?_⟩) ?_ ?_
                                      rotate_left
                                      · intro w'
                                        go_simp
                                        with_reducible rfl
                                      rotate_left
                                      · simp only [Act.put, List.setIfInBounds_toArray, List.set_cons_zero, List.set_cons_succ, i64_w, i32_w]
                                        rfl
                                      refine pure_ (i := 1) (N := some 27) (v := ?_) (a' := ?_) #[true, true, false, false, false, false, false, false, false, false, false, false] rfl rfl (any_of HT_.out (by kernel_rfl)) (fun _ _ _ h => h) (Or.inl ⟨by rfl, ?_⟩) ?_ ?_
                                      rotate_left
                                      · intro w'
                                        go_simp
                                        with_reducible rfl
                                      rotate_left
                                      · simp only [Act.put, List.setIfInBounds_toArray, List.set_cons_zero, List.set_cons_succ, i64_w, i32_w]
                                        rfl
                                      refine pure_ (i := 2) (N := some 28) (v := ?_) (a' := ?_) #[true, true, true, false, false, false, false, false, false, false, false, false] rfl rfl (any_of HT_.out (by kernel_rfl)) (fun _ _ _ h => h) (Or.inl ⟨by rfl, ?_⟩) ?_ ?_
                                      rotate_left
                                      · intro w'
                                        go_simp
                                        with_reducible rfl
                                      rotate_left
                                      · simp only [Act.put, List.setIfInBounds_toArray, List.set_cons_zero, List.set_cons_succ, i64_w, i32_w]
                                        rfl
                                      refine pure_ (i := 3) (N := some 29) (v := ?_) (a' := ?_) #[true, true, true, true, false, false, false, false, false, false, false, false] rfl rfl (any_of HT_.out (by kernel_rfl)) (fun _ _ _ h => h) (Or.inl ⟨by rfl, ?_⟩) ?_ ?_
                                      rotate_left
                                      · intro w'
                                        go_simp
                                        with_reducible rfl
                                      rotate_left
                                      · simp only [Act.put, List.setIfInBounds_toArray, List.set_cons_zero, List.set_cons_succ, i64_w, i32_w]
                                        rfl
                                      refine pure_ (i := 4) (N := some 30) (v := ?_) (a' := ?_) #[true, true, true, true, true, false, false, false, false, false, false, false] rfl rfl (any_of HT_.out (by kernel_rfl)) (fun _ _ _ h => h) (Or.inl ⟨by rfl, ?_⟩) ?_ ?_
                                      rotate_left
                                      · intro w'
                                        go_simp
                                        with_reducible rfl
                                      rotate_left
                                      · simp only [Act.put, List.setIfInBounds_toArray, List.set_cons_zero, List.set_cons_succ, i64_w, i32_w]
                                        rfl
                                      refine pure_ (i := 5) (N := some 31) (v := ?_) (a' := ?_) #[true, true, true, true, true, true, false, false, false, false, false, false] rfl rfl (any_of HT_.out (by kernel_rfl)) (fun _ _ _ h => h) (Or.inl ⟨by rfl, ?_⟩) ?_ ?_
                                      rotate_left
                                      · intro w'
                                        go_simp
                                        with_reducible rfl
                                      rotate_left
                                      · simp only [Act.put, List.setIfInBounds_toArray, List.set_cons_zero, List.set_cons_succ, i64_w, i32_w]
                                        rfl
                                      refine pure_ (i := 6) (N := some 32) (v := ?_) (a' := ?_) #[true, true, true, true, true, true, true, false, false, false, false, false] rfl rfl (any_of HT_.out (by kernel_rfl)) (fun _ _ _ h => h) (Or.inl ⟨by rfl, ?_⟩) ?_ ?_
                                      rotate_left
                                      · intro w'
                                        go_simp
                                        with_reducible rfl
                                      rotate_left
                                      · simp only [Act.put, List.setIfInBounds_toArray, List.set_cons_zero, List.set_cons_succ, i64_w, i32_w]
                                        rfl
                                      refine pure_ (i := 7) (N := some 33) (v := ?_) (a' := ?_) #[true, true, true, true, true, true, true, true, false, false, false, false] rfl rfl (any_of HT_.out (by kernel_rfl)) (fun _ _ _ h => h) (Or.inl ⟨by rfl, ?_⟩) ?_ ?_
                                      rotate_left
                                      · intro w'
                                        go_simp
                                        with_reducible rfl
                                      rotate_left
                                      · simp only [Act.put, List.setIfInBounds_toArray, List.set_cons_zero, List.set_cons_succ, i64_w, i32_w]
                                        rfl
                                      refine pure_ (i := 8) (N := some 34) (v := ?_) (a' := ?_) #[true, true, true, true, true, true, true, true, true, false, false, false] rfl rfl (any_of HT_.out (by kernel_rfl)) (fun _ _ _ h => h) (Or.inl ⟨by rfl, ?_⟩) ?_ ?_
                                      rotate_left
                                      · intro w'
                                        go_simp
                                        with_reducible rfl
                                      rotate_left
                                      · simp only [Act.put, List.setIfInBounds_toArray, List.set_cons_zero, List.set_cons_succ, i64_w, i32_w]
                                        rfl
                                      refine pure_ (i := 9) (N := some 35) (v := ?_) (a' := ?_) #[true, true, true, true, true, true, true, true, true, true, false, false] rfl rfl (any_of HT_.out (by kernel_rfl)) (fun _ _ _ h => h) (Or.inl ⟨by rfl, ?_⟩) ?_ ?_
                                      rotate_left
                                      · intro w'
                                        go_simp
                                        with_reducible rfl
                                      rotate_left
                                      · simp only [Act.put, List.setIfInBounds_toArray, List.set_cons_zero, List.set_cons_succ, i64_w, i32_w]
                                        rfl
                                      refine pure_ (i := 10) (N := some 9) (v := ?_) (a' := ?_) #[true, true, true, true, true, true, true, true, true, true, true, false] rfl rfl (any_of HT_.out (by kernel_rfl)) (fun _ _ _ h => h) (Or.inl ⟨by rfl, ?_⟩) ?_ ?_
                                      rotate_left
                                      · intro w'
                                        go_simp
                                        with_reducible rfl
                                      rotate_left
                                      · simp only [Act.put, List.setIfInBounds_toArray, List.set_cons_zero, List.set_cons_succ, i64_w, i32_w]
                                        rfl
                                      refine pure_ (i := 11) (N := some 10) (v := ?_) (a' := ?_) #[true, true, true, true, true, true, true, true, true, true, true, true] rfl rfl (any_of HT_.out (by kernel_rfl)) (fun _ _ _ h => h) (Or.inl ⟨by rfl, ?_⟩) ?_ ?_
                                      rotate_left
                                      · intro w'
                                        go_simp
                                        with_reducible rfl
                                      rotate_left
                                      · simp only [Act.put, List.setIfInBounds_toArray, List.set_cons_zero, List.set_cons_succ, i64_w, i32_w]
                                        rfl
                                      refine done_ (done_of HT_.out (by kernel_rfl)) ?_
                                      try go_wp2
                                      have n0_ := Aside0.mk (Kd.R_drew HO154.out)
                                      have n1_ := Aside0.mk (below_drew1 HB.out)
                                      clear HO154
                                      clear HB
                                      have HO154 := n0_
                                      have HB := n1_
                                      clear n0_ n1_
                                      have p155 : 0 ≤ ((ji12) : Int) := of_decide_eq_true (by first | (with_reducible assumption) | assumption)
                                      have q155 : (ji12) < (l0.length : Int) := of_decide_eq_true (by first | (with_reducible assumption) | assumption)
                                      obtain ⟨ad155, e155, hx155_0⟩ := Kd.at_int HR0.out (ji12) p155 q155
                                      have hw155_0 := hx155_0
                                      cases e155
                                      replace hx155_0 := (HB.out.cell (World.block_lt_of_cell? w _ hx155_0)).trans hx155_0
                                      replace p155 := eq_true p155
                                      replace q155 := eq_true q155
                                      have p156 : 0 ≤ ((ji15) : Int) := of_decide_eq_true (by first | (with_reducible assumption) | assumption)
                                      have q156 : (ji15) < (l0.length : Int) := of_decide_eq_true (by first | (with_reducible assumption) | assumption)
                                      obtain ⟨ad156, e156, hx156_0⟩ := Kd.at_int HR0.out (ji15) p156 q156
                                      have hw156_0 := hx156_0
                                      obtain rfl : ad155 = ad156 := (by injection e156)
                                      replace hx156_0 := (HB.out.cell (World.block_lt_of_cell? w _ hx156_0)).trans hx156_0
                                      replace p156 := eq_true p156
                                      replace q156 := eq_true q156
                                      have p157 : 0 ≤ ((ji18) : Int) := of_decide_eq_true (by first | (with_reducible assumption) | assumption)
                                      have q157 : (ji18) < (l0.length : Int) := of_decide_eq_true (by first | (with_reducible assumption) | assumption)
                                      obtain ⟨ad157, e157, hx157_0⟩ := Kd.at_int HR0.out (ji18) p157 q157
                                      have hw157_0 := hx157_0
                                      obtain rfl : ad155 = ad157 := (by injection e157)
                                      replace hx157_0 := (HB.out.cell (World.block_lt_of_cell? w _ hx157_0)).trans hx157_0
                                      replace p157 := eq_true p157
                                      replace q157 := eq_true q157
                                      have p158 : 0 ≤ ((ji21) : Int) := of_decide_eq_true (by first | (with_reducible assumption) | assumption)
                                      have q158 : (ji21) < (l0.length : Int) := of_decide_eq_true (by first | (with_reducible assumption) | assumption)
                                      obtain ⟨ad158, e158, hx158_0⟩ := Kd.at_int HR0.out (ji21) p158 q158
                                      have hw158_0 := hx158_0
                                      obtain rfl : ad155 = ad158 := (by injection e158)
                                      replace hx158_0 := (HB.out.cell (World.block_lt_of_cell? w _ hx158_0)).trans hx158_0
                                      replace p158 := eq_true p158
                                      replace q158 := eq_true q158
                                      have p25 : 0 ≤ ((ji18) : Int) := of_decide_eq_true (by first | (with_reducible assumption) | assumption)
                                      have q25 : ((ji18) : Int) < ((y152.length : Int) : Int) := of_decide_eq_true (by first | (with_reducible assumption) | assumption)
                                      obtain ⟨go25, co25, eo25, gb25, gl25, cl25, HG25⟩ := Kd.R_form HO154.out (by omega)
                                      (first | cases eo25 | (injection eo25 with ea_ en_ ec_; (first | subst ea_ | (injection ea_ with ea_; subst ea_)); subst ec_; clear en_))
                                      have GB25 := Aside0.mk gb25
                                      have GG25 := Aside0.mk HG25
                                      clear gb25 gl25 HG25
                                      obtain ⟨hx25_0, hf25_0⟩ := Kd.R_celln 0 HO154.out ((ji18) : Int) p25 q25
                                      replace p25 := eq_true p25
                                      replace q25 := eq_true q25
                                      have HP38 := Kd.R_putn HO154.out ((ji18) : Int) (rd l0 (ji12))
                                      rw [← Ny159.out] at HP38
                                      have HQ38 := Aside0.mk HP38
                                      clear HP38
                                      have p27 : 0 ≤ ((ji21) : Int) := of_decide_eq_true (by first | (with_reducible assumption) | assumption)
                                      have q27 : ((ji21) : Int) < ((y152.length : Int) : Int) := of_decide_eq_true (by first | (with_reducible assumption) | assumption)
                                      obtain ⟨hx27_0, hf27_0⟩ := Kd.R_celln 0 HQ38.out ((ji21) : Int) p27 q27
                                      replace p27 := eq_true p27
                                      replace q27 := eq_true q27
                                      have HP39 := Kd.R_putn HQ38.out ((ji21) : Int) (rd l0 (ji15))
                                      rw [← Ny160.out] at HP39
                                      have HQ39 := Aside0.mk HP39
                                      clear HP39
                                      have p29 : 0 ≤ ((ji12) : Int) := of_decide_eq_true (by first | (with_reducible assumption) | assumption)
                                      have q29 : ((ji12) : Int) < ((y152.length : Int) : Int) := of_decide_eq_true (by first | (with_reducible assumption) | assumption)
                                      obtain ⟨hx29_0, hf29_0⟩ := Kd.R_celln 0 HQ39.out ((ji12) : Int) p29 q29
                                      replace p29 := eq_true p29
                                      replace q29 := eq_true q29
                                      have HP40 := Kd.R_putn HQ39.out ((ji12) : Int) (rd l0 (ji18))
                                      rw [← Ny161.out] at HP40
                                      have HQ40 := Aside0.mk HP40
                                      clear HP40
                                      have p31 : 0 ≤ ((ji15) : Int) := of_decide_eq_true (by first | (with_reducible assumption) | assumption)
                                      have q31 : ((ji15) : Int) < ((y152.length : Int) : Int) := of_decide_eq_true (by first | (with_reducible assumption) | assumption)
                                      obtain ⟨hx31_0, hf31_0⟩ := Kd.R_celln 0 HQ40.out ((ji15) : Int) p31 q31
                                      replace p31 := eq_true p31
                                      replace q31 := eq_true q31
                                      have HP41 := Kd.R_putn HQ40.out ((ji15) : Int) (rd l0 (ji21))
                                      rw [← Ny162.out] at HP41
                                      have HQ41 := Aside0.mk HP41
                                      clear HP41
                                      refine start_ (n := 36) (S := fun w' => w'.cell? (ad155.add ((ji12)).toNat) = some (.int .u8 (rd l0 (ji12))) ∧ w'.cell? (ad155.add ((ji15)).toNat) = some (.int .u8 (rd l0 (ji15))) ∧ w'.cell? (ad155.add ((ji18)).toNat) = some (.int .u8 (rd l0 (ji18))) ∧ w'.cell? (ad155.add ((ji21)).toNat) = some (.int .u8 (rd l0 (ji21)))) (ds := [29, 31, 33, 35]) #[false, false, false, false, false, false, false, false, false, false, false, false, false, false, false, false, false, false, false, false, false, false, false, false, false, false, false, false, false, false, false, false, false, false, false, false] (by kernel_rfl) rfl rfl ⟨((HB.out.cell (World.block_lt_of_cell? w _ hw155_0)).trans hw155_0), ((HB.out.cell (World.block_lt_of_cell? w _ hw156_0)).trans hw156_0), ((HB.out.cell (World.block_lt_of_cell? w _ hw157_0)).trans hw157_0), ((HB.out.cell (World.block_lt_of_cell? w _ hw158_0)).trans hw158_0)⟩ (fun hHeld => ?_); refine with_tabW viaductlaw02_SumOrder.tab8 viaductlaw02_SumOrder.bits8 (fun HT_ HW_ => ?_)
                                      generalize w36.drew = w37 at HO154 HB GG25 HQ38 HQ39 HQ40 HQ41 hf25_0 hf27_0 hf29_0 hf31_0 hx155_0 hx156_0 hx157_0 hx158_0 hx25_0 hx27_0 hx29_0 hx31_0 hHeld ⊢
                                      refine pure_ (i := 0) (N := some 36) (v := ?_) (a' := ?_) #[true, false, false, false, false, false, false, false, false, false, false, false, false, false, false, false, false, false, false, false, false, false, false, false, false, false, false, false, false, false, false, false, false, false, false, false] rfl rfl (any_of HT_.out (by kernel_rfl)) (fun _ _ _ h => h) (Or.inl ⟨by rfl, ?_⟩) ?_ ?_
                                      rotate_left
                                      · intro w'
                                        go_simp
                                        with_reducible rfl
                                      rotate_left
                                      · simp only [Act.put, List.setIfInBounds_toArray, List.set_cons_zero, List.set_cons_succ, i64_w, i32_w]
                                        rfl
                                      refine pure_ (i := 1) (N := some 37) (v := ?_) (a' := ?_) #[true, true, false, false, false, false, false, false, false, false, false, false, false, false, false, false, false, false, false, false, false, false, false, false, false, false, false, false, false, false, false, false, false, false, false, false] rfl rfl (any_of HT_.out (by kernel_rfl)) (fun _ _ _ h => h) (Or.inl ⟨by rfl, ?_⟩) ?_ ?_
                                      rotate_left
                                      · intro w'
                                        go_simp
                                        with_reducible rfl
                                      rotate_left
                                      · simp only [Act.put, List.setIfInBounds_toArray, List.set_cons_zero, List.set_cons_succ, i64_w, i32_w]
                                        rfl
                                      refine pure_ (i := 2) (N := some 38) (v := ?_) (a' := ?_) #[true, true, true, false, false, false, false, false, false, false, false, false, false, false, false, false, false, false, false, false, false, false, false, false, false, false, false, false, false, false, false, false, false, false, false, false] rfl rfl (any_of HT_.out (by kernel_rfl)) (fun _ _ _ h => h) (Or.inl ⟨by rfl, ?_⟩) ?_ ?_
                                      rotate_left
                                      · intro w'
                                        go_simp
                                        with_reducible rfl
                                      rotate_left
                                      · simp only [Act.put, List.setIfInBounds_toArray, List.set_cons_zero, List.set_cons_succ, i64_w, i32_w]
                                        rfl
                                      refine pure_ (i := 3) (N := some 39) (v := ?_) (a' := ?_) #[true, true, true, true, false, false, false, false, false, false, false, false, false, false, false, false, false, false, false, false, false, false, false, false, false, false, false, false, false, false, false, false, false, false, false, false] rfl rfl (any_of HT_.out (by kernel_rfl)) (fun _ _ _ h => h) (Or.inl ⟨by rfl, ?_⟩) ?_ ?_
                                      rotate_left
                                      · intro w'
                                        go_simp
                                        with_reducible rfl
                                      rotate_left
                                      · simp only [Act.put, List.setIfInBounds_toArray, List.set_cons_zero, List.set_cons_succ, i64_w, i32_w]
                                        rfl
                                      refine pure_ (i := 4) (N := some 40) (v := ?_) (a' := ?_) #[true, true, true, true, true, false, false, false, false, false, false, false, false, false, false, false, false, false, false, false, false, false, false, false, false, false, false, false, false, false, false, false, false, false, false, false] rfl rfl (any_of HT_.out (by kernel_rfl)) (fun _ _ _ h => h) (Or.inl ⟨by rfl, ?_⟩) ?_ ?_
                                      rotate_left
                                      · intro w'
                                        go_simp
                                        with_reducible rfl
                                      rotate_left
                                      · simp only [Act.put, List.setIfInBounds_toArray, List.set_cons_zero, List.set_cons_succ, i64_w, i32_w]
                                        rfl
                                      refine pure_ (i := 5) (N := some 41) (v := ?_) (a' := ?_) #[true, true, true, true, true, true, false, false, false, false, false, false, false, false, false, false, false, false, false, false, false, false, false, false, false, false, false, false, false, false, false, false, false, false, false, false] rfl rfl (any_of HT_.out (by kernel_rfl)) (fun _ _ _ h => h) (Or.inl ⟨by rfl, ?_⟩) ?_ ?_
                                      rotate_left
                                      · intro w'
                                        go_simp
                                        with_reducible rfl
                                      rotate_left
                                      · simp only [Act.put, List.setIfInBounds_toArray, List.set_cons_zero, List.set_cons_succ, i64_w, i32_w]
                                        rfl
                                      refine pure_ (i := 6) (N := some 42) (v := ?_) (a' := ?_) #[true, true, true, true, true, true, true, false, false, false, false, false, false, false, false, false, false, false, false, false, false, false, false, false, false, false, false, false, false, false, false, false, false, false, false, false] rfl rfl (any_of HT_.out (by kernel_rfl)) (fun _ _ _ h => h) (Or.inl ⟨by rfl, ?_⟩) ?_ ?_
                                      rotate_left
                                      · intro w'
                                        go_simp
                                        with_reducible rfl
                                      rotate_left
                                      · simp only [Act.put, List.setIfInBounds_toArray, List.set_cons_zero, List.set_cons_succ, i64_w, i32_w]
                                        rfl
                                      refine pure_ (i := 7) (N := some 43) (v := ?_) (a' := ?_) #[true, true, true, true, true, true, true, true, false, false, false, false, false, false, false, false, false, false, false, false, false, false, false, false, false, false, false, false, false, false, false, false, false, false, false, false] rfl rfl (any_of HT_.out (by kernel_rfl)) (fun _ _ _ h => h) (Or.inl ⟨by rfl, ?_⟩) ?_ ?_
                                      rotate_left
                                      · intro w'
                                        go_simp
                                        with_reducible rfl
                                      rotate_left
                                      · simp only [Act.put, List.setIfInBounds_toArray, List.set_cons_zero, List.set_cons_succ, i64_w, i32_w]
                                        rfl
                                      refine pure_ (i := 8) (N := some 44) (v := ?_) (a' := ?_) #[true, true, true, true, true, true, true, true, true, false, false, false, false, false, false, false, false, false, false, false, false, false, false, false, false, false, false, false, false, false, false, false, false, false, false, false] rfl rfl (any_of HT_.out (by kernel_rfl)) (fun _ _ _ h => h) (Or.inl ⟨by rfl, ?_⟩) ?_ ?_
                                      rotate_left
                                      · intro w'
                                        go_simp
                                        with_reducible rfl
                                      rotate_left
                                      · simp only [Act.put, List.setIfInBounds_toArray, List.set_cons_zero, List.set_cons_succ, i64_w, i32_w]
                                        rfl
                                      refine pure_ (i := 9) (N := some 45) (v := ?_) (a' := ?_) #[true, true, true, true, true, true, true, true, true, true, false, false, false, false, false, false, false, false, false, false, false, false, false, false, false, false, false, false, false, false, false, false, false, false, false, false] rfl rfl (any_of HT_.out (by kernel_rfl)) (fun _ _ _ h => h) (Or.inl ⟨by rfl, ?_⟩) ?_ ?_
                                      rotate_left
                                      · intro w'
                                        go_simp
                                        with_reducible rfl
                                      rotate_left
                                      · simp only [Act.put, List.setIfInBounds_toArray, List.set_cons_zero, List.set_cons_succ, i64_w, i32_w]
                                        rfl
                                      refine pure_ (i := 10) (N := some 46) (v := ?_) (a' := ?_) #[true, true, true, true, true, true, true, true, true, true, true, false, false, false, false, false, false, false, false, false, false, false, false, false, false, false, false, false, false, false, false, false, false, false, false, false] rfl rfl (any_of HT_.out (by kernel_rfl)) (fun _ _ _ h => h) (Or.inl ⟨by rfl, ?_⟩) ?_ ?_
                                      rotate_left
                                      · intro w'
                                        go_simp
                                        with_reducible rfl
                                      rotate_left
                                      · simp only [Act.put, List.setIfInBounds_toArray, List.set_cons_zero, List.set_cons_succ, i64_w, i32_w]
                                        rfl
                                      refine pure_ (i := 11) (N := some 47) (v := ?_) (a' := ?_) #[true, true, true, true, true, true, true, true, true, true, true, true, false, false, false, false, false, false, false, false, false, false, false, false, false, false, false, false, false, false, false, false, false, false, false, false] rfl rfl (any_of HT_.out (by kernel_rfl)) (fun _ _ _ h => h) (Or.inl ⟨by rfl, ?_⟩) ?_ ?_
                                      rotate_left
                                      · intro w'
                                        go_simp
                                        with_reducible rfl
                                      rotate_left
                                      · simp only [Act.put, List.setIfInBounds_toArray, List.set_cons_zero, List.set_cons_succ, i64_w, i32_w]
                                        rfl
                                      refine pure_ (i := 12) (N := some 48) (v := ?_) (a' := ?_) #[true, true, true, true, true, true, true, true, true, true, true, true, true, false, false, false, false, false, false, false, false, false, false, false, false, false, false, false, false, false, false, false, false, false, false, false] rfl rfl (any_of HT_.out (by kernel_rfl)) (fun _ _ _ h => h) (Or.inl ⟨by rfl, ?_⟩) ?_ ?_
                                      rotate_left
                                      · intro w'
                                        go_simp
                                        with_reducible rfl
                                      rotate_left
                                      · simp only [Act.put, List.setIfInBounds_toArray, List.set_cons_zero, List.set_cons_succ, i64_w, i32_w]
                                        rfl
                                      refine pure_ (i := 14) (N := some 50) (v := ?_) (a' := ?_) #[true, true, true, true, true, true, true, true, true, true, true, true, true, false, true, false, false, false, false, false, false, false, false, false, false, false, false, false, false, false, false, false, false, false, false, false] rfl rfl (any_of HT_.out (by kernel_rfl)) (fun _ _ _ h => h) (Or.inl ⟨by rfl, ?_⟩) ?_ ?_
                                      rotate_left
                                      · intro w'
                                        go_simp
                                        with_reducible rfl
                                      rotate_left
                                      · simp only [Act.put, List.setIfInBounds_toArray, List.set_cons_zero, List.set_cons_succ, i64_w, i32_w]
                                        rfl
                                      refine pure_ (i := 15) (N := some 51) (v := ?_) (a' := ?_) #[true, true, true, true, true, true, true, true, true, true, true, true, true, false, true, true, false, false, false, false, false, false, false, false, false, false, false, false, false, false, false, false, false, false, false, false] rfl rfl (any_of HT_.out (by kernel_rfl)) (fun _ _ _ h => h) (Or.inl ⟨by rfl, ?_⟩) ?_ ?_
                                      rotate_left
                                      · intro w'
                                        go_simp
                                        with_reducible rfl
                                      rotate_left
                                      · simp only [Act.put, List.setIfInBounds_toArray, List.set_cons_zero, List.set_cons_succ, i64_w, i32_w]
                                        rfl
                                      refine pure_ (i := 16) (N := some 52) (v := ?_) (a' := ?_) #[true, true, true, true, true, true, true, true, true, true, true, true, true, false, true, true, true, false, false, false, false, false, false, false, false, false, false, false, false, false, false, false, false, false, false, false] rfl rfl (any_of HT_.out (by kernel_rfl)) (fun _ _ _ h => h) (Or.inl ⟨by rfl, ?_⟩) ?_ ?_
                                      rotate_left
                                      · intro w'
                                        go_simp
                                        with_reducible rfl
                                      rotate_left
                                      · simp only [Act.put, List.setIfInBounds_toArray, List.set_cons_zero, List.set_cons_succ, i64_w, i32_w]
                                        rfl
                                      refine pure_ (i := 17) (N := some 53) (v := ?_) (a' := ?_) #[true, true, true, true, true, true, true, true, true, true, true, true, true, false, true, true, true, true, false, false, false, false, false, false, false, false, false, false, false, false, false, false, false, false, false, false] rfl rfl (any_of HT_.out (by kernel_rfl)) (fun _ _ _ h => h) (Or.inl ⟨by rfl, ?_⟩) ?_ ?_
                                      rotate_left
                                      · intro w'
                                        go_simp
                                        with_reducible rfl
                                      rotate_left
                                      · simp only [Act.put, List.setIfInBounds_toArray, List.set_cons_zero, List.set_cons_succ, i64_w, i32_w]
                                        rfl
                                      refine pure_ (i := 19) (N := some 55) (v := ?_) (a' := ?_) #[true, true, true, true, true, true, true, true, true, true, true, true, true, false, true, true, true, true, false, true, false, false, false, false, false, false, false, false, false, false, false, false, false, false, false, false] rfl rfl (any_of HT_.out (by kernel_rfl)) (fun _ _ _ h => h) (Or.inl ⟨by rfl, ?_⟩) ?_ ?_
                                      rotate_left
                                      · intro w'
                                        go_simp
                                        with_reducible rfl
                                      rotate_left
                                      · simp only [Act.put, List.setIfInBounds_toArray, List.set_cons_zero, List.set_cons_succ, i64_w, i32_w]
                                        rfl
                                      refine pure_ (i := 20) (N := some 56) (v := ?_) (a' := ?_) #[true, true, true, true, true, true, true, true, true, true, true, true, true, false, true, true, true, true, false, true, true, false, false, false, false, false, false, false, false, false, false, false, false, false, false, false] rfl rfl (any_of HT_.out (by kernel_rfl)) (fun _ _ _ h => h) (Or.inl ⟨by rfl, ?_⟩) ?_ ?_
                                      rotate_left
                                      · intro w'
                                        go_simp
                                        with_reducible rfl
                                      rotate_left
                                      · simp only [Act.put, List.setIfInBounds_toArray, List.set_cons_zero, List.set_cons_succ, i64_w, i32_w]
                                        rfl
                                      refine pure_ (i := 21) (N := some 57) (v := ?_) (a' := ?_) #[true, true, true, true, true, true, true, true, true, true, true, true, true, false, true, true, true, true, false, true, true, true, false, false, false, false, false, false, false, false, false, false, false, false, false, false] rfl rfl (any_of HT_.out (by kernel_rfl)) (fun _ _ _ h => h) (Or.inl ⟨by rfl, ?_⟩) ?_ ?_
                                      rotate_left
                                      · intro w'
                                        go_simp
                                        with_reducible rfl
                                      rotate_left
                                      · simp only [Act.put, List.setIfInBounds_toArray, List.set_cons_zero, List.set_cons_succ, i64_w, i32_w]
                                        rfl
                                      refine pure_ (i := 23) (N := some 59) (v := ?_) (a' := ?_) #[true, true, true, true, true, true, true, true, true, true, true, true, true, false, true, true, true, true, false, true, true, true, false, true, false, false, false, false, false, false, false, false, false, false, false, false] rfl rfl (any_of HT_.out (by kernel_rfl)) (fun _ _ _ h => h) (Or.inl ⟨by rfl, ?_⟩) ?_ ?_
                                      rotate_left
                                      · intro w'
                                        go_simp
                                        with_reducible rfl
                                      rotate_left
                                      · simp only [Act.put, List.setIfInBounds_toArray, List.set_cons_zero, List.set_cons_succ, i64_w, i32_w]
                                        rfl
                                      refine pure_ (i := 24) (N := some 60) (v := ?_) (a' := ?_) #[true, true, true, true, true, true, true, true, true, true, true, true, true, false, true, true, true, true, false, true, true, true, false, true, true, false, false, false, false, false, false, false, false, false, false, false] rfl rfl (any_of HT_.out (by kernel_rfl)) (fun _ _ _ h => h) (Or.inl ⟨by rfl, ?_⟩) ?_ ?_
                                      rotate_left
                                      · intro w'
                                        go_simp
                                        with_reducible rfl
                                      rotate_left
                                      · simp only [Act.put, List.setIfInBounds_toArray, List.set_cons_zero, List.set_cons_succ, i64_w, i32_w]
                                        rfl
                                      refine pure_ (i := 25) (N := some 61) (v := ?_) (a' := ?_) #[true, true, true, true, true, true, true, true, true, true, true, true, true, false, true, true, true, true, false, true, true, true, false, true, true, true, false, false, false, false, false, false, false, false, false, false] rfl rfl (any_of HT_.out (by kernel_rfl)) (fun _ _ _ h => h) (Or.inl ⟨by rfl, ?_⟩) ?_ ?_
                                      rotate_left
                                      · intro w'
                                        go_simp
                                        with_reducible rfl
                                      rotate_left
                                      · simp only [Act.put, List.setIfInBounds_toArray, List.set_cons_zero, List.set_cons_succ, i64_w, i32_w]
                                        rfl
                                      refine pure_ (i := 26) (N := some 62) (v := ?_) (a' := ?_) #[true, true, true, true, true, true, true, true, true, true, true, true, true, false, true, true, true, true, false, true, true, true, false, true, true, true, true, false, false, false, false, false, false, false, false, false] rfl rfl (any_of HT_.out (by kernel_rfl)) (fun _ _ _ h => h) (Or.inl ⟨by rfl, ?_⟩) ?_ ?_
                                      rotate_left
                                      · intro w'
                                        go_simp
                                        with_reducible rfl
                                      rotate_left
                                      · simp only [Act.put, List.setIfInBounds_toArray, List.set_cons_zero, List.set_cons_succ, i64_w, i32_w]
                                        rfl
                                      refine take_ (i := 13) (N := some 49) (v := ?_) (a' := ?_) #[true, true, true, true, true, true, true, true, true, true, true, true, true, true, true, true, true, true, false, true, true, true, false, true, true, true, true, false, false, false, false, false, false, false, false, false] rfl rfl (take_ofW HT_.out HW_.out (by kernel_rfl)) (fun _ _ _ h => h) (Or.inl ⟨by rfl, ?_⟩) hHeld ?_ ?_
                                      rotate_left
                                      · rintro w' ⟨s0, s1, s2, s3⟩
                                        go_simp
                                        with_reducible rfl
                                      rotate_left
                                      · simp only [Act.put, List.setIfInBounds_toArray, List.set_cons_zero, List.set_cons_succ, i64_w, i32_w]
                                        rfl
                                      refine take_ (i := 18) (N := some 54) (v := ?_) (a' := ?_) #[true, true, true, true, true, true, true, true, true, true, true, true, true, true, true, true, true, true, true, true, true, true, false, true, true, true, true, false, false, false, false, false, false, false, false, false] rfl rfl (take_ofW HT_.out HW_.out (by kernel_rfl)) (fun _ _ _ h => h) (Or.inl ⟨by rfl, ?_⟩) hHeld ?_ ?_
                                      rotate_left
                                      · rintro w' ⟨s0, s1, s2, s3⟩
                                        go_simp
                                        with_reducible rfl
                                      rotate_left
                                      · simp only [Act.put, List.setIfInBounds_toArray, List.set_cons_zero, List.set_cons_succ, i64_w, i32_w]
                                        rfl
                                      refine take_ (i := 22) (N := some 58) (v := ?_) (a' := ?_) #[true, true, true, true, true, true, true, true, true, true, true, true, true, true, true, true, true, true, true, true, true, true, true, true, true, true, true, false, false, false, false, false, false, false, false, false] rfl rfl (take_ofW HT_.out HW_.out (by kernel_rfl)) (fun _ _ _ h => h) (Or.inl ⟨by rfl, ?_⟩) hHeld ?_ ?_
                                      rotate_left
                                      · rintro w' ⟨s0, s1, s2, s3⟩
                                        go_simp
                                        with_reducible rfl
                                      rotate_left
                                      · simp only [Act.put, List.setIfInBounds_toArray, List.set_cons_zero, List.set_cons_succ, i64_w, i32_w]
                                        rfl
                                      refine take_ (i := 27) (N := some 63) (v := ?_) (a' := ?_) #[true, true, true, true, true, true, true, true, true, true, true, true, true, true, true, true, true, true, true, true, true, true, true, true, true, true, true, true, false, false, false, false, false, false, false, false] rfl rfl (take_ofW HT_.out HW_.out (by kernel_rfl)) (fun _ _ _ h => h) (Or.inl ⟨by rfl, ?_⟩) hHeld ?_ ?_
                                      rotate_left
                                      · rintro w' ⟨s0, s1, s2, s3⟩
                                        go_simp
                                        with_reducible rfl
                                      rotate_left
                                      · simp only [Act.put, List.setIfInBounds_toArray, List.set_cons_zero, List.set_cons_succ, i64_w, i32_w]
                                        rfl
                                      refine pure_ (i := 28) (N := some 64) (v := ?_) (a' := ?_) #[true, true, true, true, true, true, true, true, true, true, true, true, true, true, true, true, true, true, true, true, true, true, true, true, true, true, true, true, true, false, false, false, false, false, false, false] rfl rfl (any_of HT_.out (by kernel_rfl)) (fun _ _ _ h => h) (Or.inl ⟨by rfl, ?_⟩) ?_ ?_
                                      rotate_left
                                      · intro w'
                                        go_simp
                                        with_reducible rfl
                                      rotate_left
                                      · simp only [Act.put, List.setIfInBounds_toArray, List.set_cons_zero, List.set_cons_succ, i64_w, i32_w]
                                        rfl
                                      refine last_ (i := 29) (N := none) #[true, true, true, true, true, true, true, true, true, true, true, true, true, true, true, true, true, true, true, true, true, true, true, true, true, true, true, true, true, true, false, false, false, false, false, false] rfl rfl (one_of HT_.out (by kernel_rfl)) (by decide) (fun K hK => ?_)
                                      refine skip_ (w1 := ?_) (by rfl) rfl ?_ ?_
                                      rotate_left
                                      · go_simp
                                        rfl
                                      refine hK.out _ _ ?_
                                      clear hK K
                                      refine pure_ (i := 30) (N := some 65) (v := ?_) (a' := ?_) #[true, true, true, true, true, true, true, true, true, true, true, true, true, true, true, true, true, true, true, true, true, true, true, true, true, true, true, true, true, true, true, false, false, false, false, false] rfl rfl (any_of HT_.out (by kernel_rfl)) (fun _ _ _ h => h) (Or.inl ⟨by rfl, ?_⟩) ?_ ?_
                                      rotate_left
                                      · intro w'
                                        go_simp
                                        with_reducible rfl
                                      rotate_left
                                      · simp only [Act.put, List.setIfInBounds_toArray, List.set_cons_zero, List.set_cons_succ, i64_w, i32_w]
                                        rfl
                                      refine last_ (i := 31) (N := none) #[true, true, true, true, true, true, true, true, true, true, true, true, true, true, true, true, true, true, true, true, true, true, true, true, true, true, true, true, true, true, true, true, false, false, false, false] rfl rfl (one_of HT_.out (by kernel_rfl)) (by decide) (fun K hK => ?_)
                                      refine skip_ (w1 := ?_) (by rfl) rfl ?_ ?_
                                      rotate_left
                                      · go_simp
                                        rfl
                                      refine hK.out _ _ ?_
                                      clear hK K
                                      refine pure_ (i := 32) (N := some 66) (v := ?_) (a' := ?_) #[true, true, true, true, true, true, true, true, true, true, true, true, true, true, true, true, true, true, true, true, true, true, true, true, true, true, true, true, true, true, true, true, true, false, false, false] rfl rfl (any_of HT_.out (by kernel_rfl)) (fun _ _ _ h => h) (Or.inl ⟨by rfl, ?_⟩) ?_ ?_
                                      rotate_left
                                      · intro w'
                                        go_simp
                                        with_reducible rfl
                                      rotate_left
                                      · simp only [Act.put, List.setIfInBounds_toArray, List.set_cons_zero, List.set_cons_succ, i64_w, i32_w]
                                        rfl
                                      refine last_ (i := 33) (N := none) #[true, true, true, true, true, true, true, true, true, true, true, true, true, true, true, true, true, true, true, true, true, true, true, true, true, true, true, true, true, true, true, true, true, true, false, false] rfl rfl (one_of HT_.out (by kernel_rfl)) (by decide) (fun K hK => ?_)
                                      refine skip_ (w1 := ?_) (by rfl) rfl ?_ ?_
                                      rotate_left
                                      · go_simp
                                        rfl
                                      refine hK.out _ _ ?_
                                      clear hK K
                                      refine pure_ (i := 34) (N := some 67) (v := ?_) (a' := ?_) #[true, true, true, true, true, true, true, true, true, true, true, true, true, true, true, true, true, true, true, true, true, true, true, true, true, true, true, true, true, true, true, true, true, true, true, false] rfl rfl (any_of HT_.out (by kernel_rfl)) (fun _ _ _ h => h) (Or.inl ⟨by rfl, ?_⟩) ?_ ?_
                                      rotate_left
                                      · intro w'
                                        go_simp
                                        with_reducible rfl
                                      rotate_left
                                      · simp only [Act.put, List.setIfInBounds_toArray, List.set_cons_zero, List.set_cons_succ, i64_w, i32_w]
                                        rfl
                                      refine last_ (i := 35) (N := none) #[true, true, true, true, true, true, true, true, true, true, true, true, true, true, true, true, true, true, true, true, true, true, true, true, true, true, true, true, true, true, true, true, true, true, true, true] rfl rfl (one_of HT_.out (by kernel_rfl)) (by decide) (fun K hK => ?_)
                                      refine skip_ (w1 := ?_) (by rfl) rfl ?_ ?_
                                      rotate_left
                                      · go_simp
                                        rfl
                                      refine hK.out _ _ ?_
                                      clear hK K
                                      refine done_ (done_of HT_.out (by kernel_rfl)) ?_
                                      try go_wp2_with (first | ((with_reducible refine gate_callee (f := 12) rfl ?_); refine goesL_ (some 69) rfl rfl Try.func12 (by kernel_rfl) rfl #[.slice (some ⟨go25, 0, none⟩) y162.length co35] rfl (by (try simp only [List.map_toArray, List.map_cons, List.map_nil]); first | done | (rw [show y162.length = y152.length from (Kd.R_reads' HQ41.out).1.symm] <;> rfl) | rfl | (simp only [List.length_drop, List.length_take]; rfl)) ?_; (with_reducible refine (sum_Of.calls _ _ y162 t163 _ ?side1 ?side2 A32.out).mono ?_); (case side1 => refine (Kd.R_reads' (e := 5) (base := w.heap.size) (ok := fun k_ => True) (n := y152.length) (c := co35) ?_).2.2; exact (by (with_reducible repeat (first | apply Kd.R_alloc | apply Kd.R_drewN | apply Kd.R_drew)); exact HQ41.out)); (case side2 => rw [show y162.length = y152.length from (Kd.R_reads' HQ41.out).1.symm]; exact (Kd.R_reads' HO154.out).2.1); rintro e w42 ⟨rfl, hb⟩; refine ⟨_, rfl, ?_⟩; have n0_ := Aside0.mk (Kd.R_below (by (with_reducible repeat (first | apply Kd.R_alloc | apply Kd.R_drewN | apply Kd.R_drew)); exact HQ41.out) hb); have n1_ := Aside0.mk (below_step (by repeat (first | (with_reducible first | exact HB.out | apply below_alloc | apply pw_below_drewN | apply below_drew1 | refine below_set ?_ GB25.out | refine below_set ?_ GB25.out | refine below_set ?_ GB25.out | refine below_set ?_ GB25.out) | exact HB.out)) hb); clear HO154; clear HB; have HO154 := n0_; have HB := n1_; clear n0_ n1_; (try clear hb); (try clear hb2); (try clear hk); (try clear hi)) | ((with_reducible refine gate_callee (f := 12) rfl ?_); refine goesL_ (some 71) rfl rfl Try.func12 (by kernel_rfl) rfl #[.slice (some ad155) l0.length c0] rfl (by (try simp only [List.map_toArray, List.map_cons, List.map_nil]); first | done | rfl | (simp only [List.length_drop, List.length_take]; rfl)) ?_; (with_reducible refine (sum_Of.calls _ _ l0 t164 _ ?side1 ?side2 A33.out).mono ?_); (case side1 => repeat (first | exact (Kd.C_below HR0.out HB.out) | (with_reducible refine Kd.C_alloc ?_ _) | (with_reducible refine Kd.C_drewN ?_ _) | (with_reducible refine Kd.C_drew ?_))); (case side2 => exact HC0.out); rintro e w43 ⟨rfl, hb⟩; refine ⟨_, rfl, ?_⟩; have n0_ := Aside0.mk (Kd.R_below (by (with_reducible repeat (first | apply Kd.R_alloc | apply Kd.R_drewN | apply Kd.R_drew)); exact HO154.out) hb); have n1_ := Aside0.mk (below_step (by repeat (first | (with_reducible first | exact HB.out | apply below_alloc | apply pw_below_drewN | apply below_drew1) | exact HB.out)) hb); clear HO154; clear HB; have HO154 := n0_; have HB := n1_; clear n0_ n1_; (try clear hb); (try clear hb2); (try clear hk); (try clear hi)))
                                      go_ret
                                      exact ⟨by first | rfl | (simp [errW_none, errW_some] <;> rfl) | (simp only [← hji12, ← hji15, ← hji18, ← hji21]; first | rfl | (simp [errW_none, errW_some] <;> rfl)) | (simp [*, errW_none, errW_some] <;> rfl), by repeat (first | (with_reducible first | exact HB.out | apply below_alloc | apply pw_below_drewN | apply below_drew1) | exact HB.out)⟩
                                    · rw [if_neg c30] at H
                                      exact absurd H (by simp)
                                  · rw [if_neg c28] at H
                                    exact absurd H (by simp)
                                · rw [if_neg c26] at H
                                  exact absurd H (by simp)
                              · rw [if_neg c24] at H
                                exact absurd H (by simp)
                            · rw [if_neg c23] at H
                              exact absurd H (by simp)
                          · rw [if_neg c22] at H
                            exact absurd H (by simp)
                        · rw [if_neg c20] at H
                          exact absurd H (by simp)
                      · rw [if_neg c19] at H
                        exact absurd H (by simp)
                    · rw [if_neg c17] at H
                      exact absurd H (by simp)
                  · rw [if_neg c16] at H
                    exact absurd H (by simp)
                · rw [if_neg c14] at H
                  exact absurd H (by simp)
              · rw [if_neg c13] at H
                exact absurd H (by simp)
          · rw [if_neg c10] at H
            exact absurd H (by simp)
  · replace c5 := Bool.eq_false_iff.mpr c5
    subst c5
    have H1 : (some false) = some r := by rw [if_neg (show ¬ (false = true) by decide)] at H; exact H
    clear H
    have H := H1
    clear H1
    obtain rfl := Option.some.inj H
    go_enter Try.func7, Try.ntmps7
    go_wp2_with (first | ((with_reducible refine gate_callee (f := 9) rfl ?_); refine goesL_ (some 11) rfl rfl Try.func9 (by kernel_rfl) rfl #[] rfl (by (try simp only [List.map_toArray, List.map_cons, List.map_nil]); first | done | rfl | (simp only [List.length_drop, List.length_take]; rfl)) ?_; (with_reducible refine (viaductlaw02_alive.calls  false _ A4.out).mono ?_); rintro e w44 ⟨rfl, hb⟩; refine ⟨_, rfl, ?_⟩; have n0_ := Aside0.mk (below_step (by repeat (first | (with_reducible first | exact HB.out | apply below_alloc | apply pw_below_drewN | apply below_drew1) | exact HB.out)) hb); clear HB; have HB := n0_; clear n0_; (try clear hb); (try clear hb2); (try clear hk); (try clear hi)))
    go_ret
    exact ⟨by first | rfl | (simp [errW_none, errW_some] <;> rfl) | (simp [*, errW_none, errW_some] <;> rfl), by repeat (first | (with_reducible first | exact HB.out | apply below_alloc | apply pw_below_drewN | apply below_drew1) | exact HB.out)⟩

/-- THE ONE PURE STATEMENT of viaductlaw02_SumOrder: yours. -/
def viaductlaw02_SumOrder.Pure : Prop := ∀ (l0 : List Int) (a1 : Int) (a2 : Int), l0.length ≤ maxLen → l0.length * 1 ≤ 140737488351232 → (∀ x ∈ l0, (Lit.int .u8 x).wf = true) → (Lit.int .u16 a1).wf = true → (Lit.int .u16 a2).wf = true → ∃ k, viaductlaw02_SumOrder.f k l0 a1 a2 = some true
theorem viaductlaw02_SumOrder.walk (P : viaductlaw02_SumOrder.Pure) (a0 : Option Addr) (len0 cap0 : Nat) (z0 : List Int) (a1 : Int) (a2 : Int) (w : World) (w0 : (a0 = none ∧ len0 = 0 ∧ cap0 = 0 ∧ z0 = []) ∨ ∃ x, a0 = some x ∧ len0 ≤ cap0 ∧ cap0 ≤ maxLen ∧ z0.length = cap0 ∧ (∀ i, i < z0.length → w.cell? (x.add i) = some (.int .u8 (z0.getD i 0))) ∧ ∀ n ∈ z0, (Lit.int .u8 n).wf = true) (y0 : len0 * 1 ≤ 140737488351232) (w1 : (Lit.int .u16 a1).wf = true) (w2 : (Lit.int .u16 a2).wf = true) :
    Calls Try.prog 7 #[.slice a0 len0 cap0, .int .u16 a1, .int .u16 a2] w fun e w' => e = .returned (.bool true) ∧ Below w.heap.size w w' := by
  obtain ⟨l0, rfl, hr0, hm0, hw0, hc0⟩ := ReadsInt.ofRowC w0
  obtain ⟨k, h⟩ := P l0 a1 a2 hm0 y0 hw0 w1 w2
  refine (viaductlaw02_SumOrder.calls k _ _ l0 a1 a2 true w (Kd.C_of_reads (d := (0 : Int)) (h1 := fun _ => rfl) hr0) hc0 h).mono ?_
  rintro e w' ⟨rfl, hd⟩
  exact ⟨rfl, hd⟩

end Go.Proofs.Ytdcildmjmbbmeaa.Q
