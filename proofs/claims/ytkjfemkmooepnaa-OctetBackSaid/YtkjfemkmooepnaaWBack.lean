/- OctetBack answers true. -/
import Derived.Test.YtkjfemkmooepnaaRefBack
import Derived.Test.YtkjfemkmooepnaaGivAlive01
import Derived.Deep.RegionWith
namespace Go.Proofs.Ytkjfemkmooepnaa.Walk
open Go.RowKit Go.Proofs.YtkjfemkmooepnaaW.PrintWords Go.Proofs.YtkjfemkmooepnaaW.PrintLast Go.Proofs.YtkjfemkmooepnaaW.PrintMore Go.Proofs.Ytkjfemkmooepnaa.Oct Go.Proofs.Ytkjfemkmooepnaa.Ref Go.Proofs.Ytkjfemkmooepnaa.Giv
set_option linter.unusedVariables false
set_option linter.unusedSimpArgs false

theorem infoU : (Try.prog.info? 23).map (fun i => (i.zero, i.size, i.bytes)) = some (some (.int .u64 0), 1, 8) := by kernel_rfl
theorem infoI : (Try.prog.info? 3).map (fun i => (i.zero, i.size, i.bytes)) = some (some (.int .i64 0), 1, 8) := by kernel_rfl
theorem lit_one (k : IntKind) (e : Nat) (W : World) (base : Nat) (hb : base ≤ W.heap.size) (x : Int) : Kd.R (Kd.int k) e (W.alloc (.cells #[.int k x] e)) base (fun _ => True) (.slice (some ⟨W.heap.size, 0, none⟩) 1 1) [x] :=
  Kd.R_of_own (h1 := fun _ => rfl) (own_lit_of (enc := Value.int k) W base e [x] hb (by simp)) (fun _ _ => trivial)

def back9.T9 : Bool × List (List Nat × List Nat) := (true, [([], []), ([], []), ([], []), ([1, 2], [1, 2]), ([3], [3]), ([], []), ([], []), ([5, 6], [5, 6]), ([7], [7]), ([0, 4, 8], [0, 4, 8]), ([9], [9]), ([10], [10]), ([10], [10]), ([11, 9, 0, 1, 2, 3, 4, 5, 6, 7, 8, 9, 10, 11], [11]), ([12, 13, 0, 1, 2, 3, 4, 5, 6, 7, 8, 9, 10, 11, 12, 13], [12])])
def back9.B9 : List Nat := [0, 0, 0, 6, 14, 0, 0, 96, 224, 511, 1023, 2047, 2047, 4095, 16383]
theorem back9.tab9 : rtab .any (opsOf Try.f4 9) = back9.T9 := by kernel_rfl
theorem back9.bits9 : waitsOk back9.T9.2 back9.B9 = true := by kernel_rfl
def back11.T11 : Bool × List (List Nat × List Nat) := (true, [([], []), ([], []), ([], []), ([], []), ([2, 3], [2, 3]), ([4], [4]), ([5], [5]), ([1, 6], [1, 6]), ([], []), ([], []), ([], []), ([9, 10], [9, 10]), ([11], [11]), ([12], [12]), ([8, 13, 7], [8, 13]), ([0, 14, 0], [0]), ([7, 15, 0, 1, 2, 3, 4, 5, 6, 7, 15], [1, 7]), ([14, 16, 0, 1, 2, 3, 4, 5, 6, 7, 8, 9, 10, 11, 12, 13, 14, 15, 16], [8, 14])])
def back11.B11 : List Nat := [0, 0, 0, 0, 12, 28, 60, 126, 0, 0, 0, 1536, 3584, 7680, 16382, 32767, 65535, 131071]
theorem back11.tab11 : rtab .any (opsOf Try.f4 11) = back11.T11 := by kernel_rfl
theorem back11.bits11 : waitsOk back11.T11.2 back11.B11 = true := by kernel_rfl
set_option maxRecDepth 20000 in
set_option maxHeartbeats 8000000 in
theorem back_any {w : World} {A B : Option Addr} {c d : Nat} {l m : List Int} (hr : Kd.C (Kd.int .u64) w A l.length l) (hc : l.length ≤ c) (hcm : c ≤ maxLen) (hr2 : Kd.C (Kd.int .i64) w B m.length m) (hd : m.length ≤ d) (hdm : d ≤ maxLen) (hw : ∀ y ∈ l, (Lit.int .u64 y).wf = true) :
    Calls Try.prog 4 #[.slice A l.length c, .slice B m.length d] w fun e w' => e = .returned (.bool true) ∧ Below w.heap.size w w' := by
  unfold maxLen at hcm hdm
  have HL := Aside0.mk hr
  have HM := Aside0.mk hr2
  have HWF := Aside0.mk hw
  clear hr hr2 hw
  go_enter Try.func4, Try.ntmps4
  go_wp2_with fail
  refine (viaductlaw01_alive.calls true _ rfl).mono ?_
  rintro e w1 ⟨rfl, hb⟩
  have HB := Aside0.mk hb
  clear hb
  go_wp2_with fail
  go_loopg [5, 6, 7, 8] 64 (fun gk v5 v6 v7 v8 w' => ∃ (i k : Nat) (X P W : List Int), k = gk ∧ v8 = .int .i64 (i : Int) ∧ i + k = 64 ∧ i ≤ l.length ∧ i ≤ m.length ∧ P.length ≤ i ∧ Aside0 (Kd.R (Kd.int .u8) 5 w' w.heap.size (fun _ => True) v5 X) ∧ Aside0 (Kd.R (Kd.int .u64) 23 w' w.heap.size (fun _ => True) v6 P) ∧
    Aside0 (Kd.R (Kd.int .i64) 3 w' w.heap.size (fun _ => True) v7 W) ∧ Aside0 (GoodN P W) ∧ Aside0 (X = catB P W) ∧ Aside0 (Below w.heap.size w w'))
  case atStart => exact ⟨0, 64, [], [], [], rfl, rfl, rfl, Nat.zero_le _, Nat.zero_le _, Nat.le_refl _, ⟨Kd.R_nil _ _ _ _ _⟩, ⟨Kd.R_nil _ _ _ _ _⟩, ⟨Kd.R_nil _ _ _ _ _⟩, ⟨trivial⟩, ⟨rfl⟩, HB⟩
  case round =>
    clear HB
    obtain ⟨i, k, X, P, W, rfl, rfl, hik, hil, him, hpi, HX, HP, HW, HG, HC, HB⟩ := hrel
    obtain ⟨A5, c5, e5⟩ := Kd.R_slice HX.out
    subst e5
    obtain ⟨A6, c6, e6⟩ := Kd.R_slice HP.out
    subst e6
    obtain ⟨A7, c7, e7⟩ := Kd.R_slice HW.out
    subst e7
    by_cases hgo : i < l.length ∧ i < m.length ∧ i < 64
    · obtain ⟨h1, h2, h3⟩ := hgo
      obtain ⟨k, rfl⟩ : ∃ k', k = k' + 1 := ⟨k - 1, by omega⟩
      obtain ⟨ad, hA, _⟩ := Kd.at_int HL.out (i : Int) (by omega) (by omega)
      obtain ⟨bd, hB, _⟩ := Kd.at_int HM.out (i : Int) (by omega) (by omega)
      subst hA
      subst hB
      obtain ⟨u, hu⟩ : ∃ u, l[i] = u := ⟨_, rfl⟩
      obtain ⟨n, hn⟩ : ∃ n, m[i] = n := ⟨_, rfl⟩
      have hcl : ∀ w', Below w.heap.size w w' → w'.cell? (ad.add i) = some (.int .u64 u) := fun w' hb => by
        obtain ⟨ad', e, hcell⟩ := Kd.at_int (Kd.C_below HL.out hb) (i : Int) (by omega) (by omega)
        cases e
        rw [Int.toNat_natCast, rd_at l i h1, hu] at hcell
        exact hcell
      have hcm' : ∀ w', Below w.heap.size w w' → w'.cell? (bd.add i) = some (.int .i64 n) := fun w' hb => by
        obtain ⟨bd', e, hcell⟩ := Kd.at_int (Kd.C_below HM.out hb) (i : Int) (by omega) (by omega)
        cases e
        rw [Int.toNat_natCast, rd_at m i h2, hn] at hcell
        exact hcell
      have hub := bounds_u64 (HWF.out u (by rw [← hu]; exact List.getElem_mem h1))
      have HUB := Aside0.mk hub
      have HCL := Aside0.mk hcl
      have HCM := Aside0.mk hcm'
      have hxl : X.length ≤ 512 := by rw [HC.out]; have := catB_len HG.out; omega
      clear hcl hcm' hub hu hn
      obtain ⟨X2, hX2⟩ : ∃ X2, putB X n u = X2 := ⟨_, rfl⟩
      obtain ⟨Y, hY⟩ : ∃ Y, putE n u = Y := ⟨_, rfl⟩
      have hput : ∀ w' : World, Kd.R (Kd.int .u8) 5 w' w.heap.size (fun _ => True) (.slice A5 X.length c5) X → w.heap.size ≤ w'.heap.size → Calls Try.prog 10 #[.slice A5 X.length c5, .int .i64 n, .int .u64 u] w' fun e w'' => ∃ A9 c9, e = .returned (.tuple #[.slice A9 X2.length c9, .int .i64 Y]) ∧ Kd.R (Kd.int .u8) 5 w'' w.heap.size (fun _ => True) (.slice A9 X2.length c9) X2 ∧ Below w'.heap.size w' w'' := fun w' h hs => by
        refine (put_any (Kd.R_reads' h).2.2 (Kd.R_reads' h).2.1 (by omega) n u).mono ?_
        rintro e w'' ⟨v, rfl, hv, hb⟩
        rw [hX2] at hv
        rw [hY]
        obtain ⟨A9, c9, e9⟩ := Kd.R_slice hv
        subst e9
        exact ⟨A9, c9, rfl, Kd.R_lower hv hs, hb⟩
      have HPUT := Aside0.mk hput
      have HFIT : Aside0 (Y = 0 → fitsN u n ∧ X2 = X ++ digits u n.toNat) := ⟨fun h => by
        have := putE_fits (u := u) (n := n) HUB.out.1 (by have := HUB.out.2; omega) (hY.trans h)
        exact ⟨this.1, by rw [← hX2]; exact this.2 X⟩⟩
      clear hput hX2 hY
      go_wp2_with fail
      replace HX := Aside0.mk (Kd.R_drew HX.out)
      replace HP := Aside0.mk (Kd.R_drew HP.out)
      replace HW := Aside0.mk (Kd.R_drew HW.out)
      replace HB := Aside0.mk (below_drew HB.out)
      refine start_ (n := 15) (S := fun w' => True) (ds := []) #[false, false, false, false, false, false, false, false, false, false, false, false, false, false, false] (by kernel_rfl) rfl rfl trivial (fun hHeld => ?_)
      refine with_tabW back9.tab9 back9.bits9 (fun HT_ HW_ => ?_)
      refine inv_at [0, 1, 2, 3, 4, 5, 6, 7, 8, 9, 10, 11, 12, 13, 14] (fun a0_ b a w' => ∃ (A9 : Option Addr) (c9 : Nat) (m9_ : Value) (m10_ : Value) (m11_ : Value) (m13_ : Value), a = putSel a0_ b [(0, 33, .slice A5 X.length c5), (1, 34, .slice (some bd) m.length d), (2, 35, .int .i64 (i : Int)), (3, 36, .pointer (some (bd.add i))), (4, 37, .int .i64 n), (5, 38, .slice (some ad) l.length c), (6, 39, .int .i64 (i : Int)), (7, 40, .pointer (some (ad.add i))), (8, 41, .int .u64 u), (9, 42, m9_), (10, 32, m10_), (11, 43, m11_), (12, 44, .int .i64 Y), (13, 9, m13_), (14, 10, .int .i64 Y)] ∧ (Below w.heap.size w w') ∧ (Kd.R (Kd.int .u8) 5 w' w.heap.size (fun _ => True) (.slice A5 X.length c5) X) ∧ (Kd.R (Kd.int .u64) 23 w' w.heap.size (fun _ => True) (.slice A6 P.length c6) P) ∧ (Kd.R (Kd.int .i64) 3 w' w.heap.size (fun _ => True) (.slice A7 W.length c7) W) ∧ (b 9 = true → Kd.R (Kd.int .u8) 5 w' w.heap.size (fun _ => True) (.slice A9 X2.length c9) X2) ∧ (b 9 = true → (m9_ : Value) = .tuple #[.slice A9 X2.length c9, .int .i64 Y]) ∧ (b 10 = true → (m10_ : Value) = .tuple #[.slice A9 X2.length c9, .int .i64 Y]) ∧ (b 11 = true → (m11_ : Value) = .slice A9 X2.length c9) ∧ (b 13 = true → (m13_ : Value) = .slice A9 X2.length c9)) HT_.out HW_.out (by kernel_rfl) (by kernel_rfl) ?_ ?_ ?_
      · exact ⟨none, 0, .bool false, .bool false, .bool false, .bool false, by simp only [putSel, Bool.false_eq_true, if_false], HB.out, HX.out, HP.out, HW.out, fun h_ => absurd h_ (by decide), fun h_ => absurd h_ (by decide), fun h_ => absurd h_ (by decide), fun h_ => absurd h_ (by decide), fun h_ => absurd h_ (by decide)⟩
      · skip
        clear HB HP HW HX
        refine steps_cons ?_ ?_
        · rintro b a w' ⟨A9, c9, m9_, m10_, m11_, m13_, ha, Q_HB, Q_HX, Q_HP, Q_HW, Q_HX9, Q_X9_, Q_X10_, Q_X11_, Q_X13_⟩ hb_ hon hoff
          refine ⟨_, rfl, fun K hK => ?_⟩
          have e5 : a.tmps[5]? = some (.slice A5 X.length c5) := by rw [ha]; exact (putSel_off rfl).trans rfl
          replace ha := Aside0.mk ha
          have HB := Aside0.mk Q_HB
          have HX := Aside0.mk Q_HX
          have HP := Aside0.mk Q_HP
          have HW := Aside0.mk Q_HW
          refine value_ (w1 := w') (v := .slice A5 X.length c5) (by rfl) rfl ?_ ?_
          · go_simp
            (try simp only [i64_w])
            try rfl
            all_goals (try (unfold wrap64; omega))
          refine hK.out _ _ ⟨A9, c9, m9_, m10_, m11_, m13_, (by rw [ha.out]; exact putSel_upk 0 hb_ rfl rfl rfl), Q_HB, Q_HX, Q_HP, Q_HW, fun h0_ => absurd ((hoff 9 (by kernel_rfl)).symm.trans h0_) (by decide), fun h0_ => absurd ((hoff 9 (by kernel_rfl)).symm.trans h0_) (by decide), fun h0_ => absurd ((hoff 10 (by kernel_rfl)).symm.trans h0_) (by decide), fun h0_ => absurd ((hoff 11 (by kernel_rfl)).symm.trans h0_) (by decide), fun h0_ => absurd ((hoff 13 (by kernel_rfl)).symm.trans h0_) (by decide)⟩
        refine steps_cons ?_ ?_
        · rintro b a w' ⟨A9, c9, m9_, m10_, m11_, m13_, ha, Q_HB, Q_HX, Q_HP, Q_HW, Q_HX9, Q_X9_, Q_X10_, Q_X11_, Q_X13_⟩ hb_ hon hoff
          refine ⟨_, rfl, fun K hK => ?_⟩
          have e1 : a.tmps[1]? = some (.slice (some bd) m.length d) := by rw [ha]; exact (putSel_off rfl).trans rfl
          replace ha := Aside0.mk ha
          have HB := Aside0.mk Q_HB
          have HX := Aside0.mk Q_HX
          have HP := Aside0.mk Q_HP
          have HW := Aside0.mk Q_HW
          refine value_ (w1 := w') (v := .slice (some bd) m.length d) (by rfl) rfl ?_ ?_
          · go_simp
            (try simp only [i64_w])
            try rfl
            all_goals (try (unfold wrap64; omega))
          refine hK.out _ _ ⟨A9, c9, m9_, m10_, m11_, m13_, (by rw [ha.out]; exact putSel_upk 1 hb_ rfl rfl rfl), Q_HB, Q_HX, Q_HP, Q_HW, fun h0_ => absurd ((hoff 9 (by kernel_rfl)).symm.trans h0_) (by decide), fun h0_ => absurd ((hoff 9 (by kernel_rfl)).symm.trans h0_) (by decide), fun h0_ => absurd ((hoff 10 (by kernel_rfl)).symm.trans h0_) (by decide), fun h0_ => absurd ((hoff 11 (by kernel_rfl)).symm.trans h0_) (by decide), fun h0_ => absurd ((hoff 13 (by kernel_rfl)).symm.trans h0_) (by decide)⟩
        refine steps_cons ?_ ?_
        · rintro b a w' ⟨A9, c9, m9_, m10_, m11_, m13_, ha, Q_HB, Q_HX, Q_HP, Q_HW, Q_HX9, Q_X9_, Q_X10_, Q_X11_, Q_X13_⟩ hb_ hon hoff
          refine ⟨_, rfl, fun K hK => ?_⟩
          have e8 : a.tmps[8]? = some (.int .i64 (i : Int)) := by rw [ha]; exact (putSel_off rfl).trans rfl
          replace ha := Aside0.mk ha
          have HB := Aside0.mk Q_HB
          have HX := Aside0.mk Q_HX
          have HP := Aside0.mk Q_HP
          have HW := Aside0.mk Q_HW
          refine value_ (w1 := w') (v := .int .i64 (i : Int)) (by rfl) rfl ?_ ?_
          · go_simp
            (try simp only [i64_w])
            try rfl
            all_goals (try (unfold wrap64; omega))
          refine hK.out _ _ ⟨A9, c9, m9_, m10_, m11_, m13_, (by rw [ha.out]; exact putSel_upk 2 hb_ rfl rfl rfl), Q_HB, Q_HX, Q_HP, Q_HW, fun h0_ => absurd ((hoff 9 (by kernel_rfl)).symm.trans h0_) (by decide), fun h0_ => absurd ((hoff 9 (by kernel_rfl)).symm.trans h0_) (by decide), fun h0_ => absurd ((hoff 10 (by kernel_rfl)).symm.trans h0_) (by decide), fun h0_ => absurd ((hoff 11 (by kernel_rfl)).symm.trans h0_) (by decide), fun h0_ => absurd ((hoff 13 (by kernel_rfl)).symm.trans h0_) (by decide)⟩
        refine steps_cons ?_ ?_
        · rintro b a w' ⟨A9, c9, m9_, m10_, m11_, m13_, ha, Q_HB, Q_HX, Q_HP, Q_HW, Q_HX9, Q_X9_, Q_X10_, Q_X11_, Q_X13_⟩ hb_ hon hoff
          refine ⟨_, rfl, fun K hK => ?_⟩
          have e34 : a.tmps[34]? = some (.slice (some bd) m.length d) := by rw [ha]; exact putSel_on (e := (1, 34, .slice (some bd) m.length d)) 1 rfl rfl (hon 1 (by kernel_rfl)) rfl
          have e35 : a.tmps[35]? = some (.int .i64 (i : Int)) := by rw [ha]; exact putSel_on (e := (2, 35, .int .i64 (i : Int))) 2 rfl rfl (hon 2 (by kernel_rfl)) rfl
          replace ha := Aside0.mk ha
          have HB := Aside0.mk Q_HB
          have HX := Aside0.mk Q_HX
          have HP := Aside0.mk Q_HP
          have HW := Aside0.mk Q_HW
          refine value_ (w1 := w') (v := .pointer (some (bd.add i))) (by rfl) rfl ?_ ?_
          · go_simp
            (try simp only [i64_w])
            try rfl
            all_goals (try (unfold wrap64; omega))
          refine hK.out _ _ ⟨A9, c9, m9_, m10_, m11_, m13_, (by rw [ha.out]; exact putSel_upk 3 hb_ rfl rfl rfl), Q_HB, Q_HX, Q_HP, Q_HW, fun h0_ => absurd ((hoff 9 (by kernel_rfl)).symm.trans h0_) (by decide), fun h0_ => absurd ((hoff 9 (by kernel_rfl)).symm.trans h0_) (by decide), fun h0_ => absurd ((hoff 10 (by kernel_rfl)).symm.trans h0_) (by decide), fun h0_ => absurd ((hoff 11 (by kernel_rfl)).symm.trans h0_) (by decide), fun h0_ => absurd ((hoff 13 (by kernel_rfl)).symm.trans h0_) (by decide)⟩
        refine steps_cons ?_ ?_
        · rintro b a w' ⟨A9, c9, m9_, m10_, m11_, m13_, ha, Q_HB, Q_HX, Q_HP, Q_HW, Q_HX9, Q_X9_, Q_X10_, Q_X11_, Q_X13_⟩ hb_ hon hoff
          refine ⟨_, rfl, fun K hK => ?_⟩
          have e36 : a.tmps[36]? = some (.pointer (some (bd.add i))) := by rw [ha]; exact putSel_on (e := (3, 36, .pointer (some (bd.add i)))) 3 rfl rfl (hon 3 (by kernel_rfl)) rfl
          replace ha := Aside0.mk ha
          have HB := Aside0.mk Q_HB
          have HX := Aside0.mk Q_HX
          have HP := Aside0.mk Q_HP
          have HW := Aside0.mk Q_HW
          have hc_ := HCM.out w' HB.out
          refine value_ (w1 := w') (v := .int .i64 n) (by rfl) rfl ?_ ?_
          · go_simp
            (try simp only [i64_w])
            try rfl
            all_goals (try (unfold wrap64; omega))
          refine hK.out _ _ ⟨A9, c9, m9_, m10_, m11_, m13_, (by rw [ha.out]; exact putSel_upk 4 hb_ rfl rfl rfl), Q_HB, Q_HX, Q_HP, Q_HW, fun h0_ => absurd ((hoff 9 (by kernel_rfl)).symm.trans h0_) (by decide), fun h0_ => absurd ((hoff 9 (by kernel_rfl)).symm.trans h0_) (by decide), fun h0_ => absurd ((hoff 10 (by kernel_rfl)).symm.trans h0_) (by decide), fun h0_ => absurd ((hoff 11 (by kernel_rfl)).symm.trans h0_) (by decide), fun h0_ => absurd ((hoff 13 (by kernel_rfl)).symm.trans h0_) (by decide)⟩
        refine steps_cons ?_ ?_
        · rintro b a w' ⟨A9, c9, m9_, m10_, m11_, m13_, ha, Q_HB, Q_HX, Q_HP, Q_HW, Q_HX9, Q_X9_, Q_X10_, Q_X11_, Q_X13_⟩ hb_ hon hoff
          refine ⟨_, rfl, fun K hK => ?_⟩
          have e0 : a.tmps[0]? = some (.slice (some ad) l.length c) := by rw [ha]; exact (putSel_off rfl).trans rfl
          replace ha := Aside0.mk ha
          have HB := Aside0.mk Q_HB
          have HX := Aside0.mk Q_HX
          have HP := Aside0.mk Q_HP
          have HW := Aside0.mk Q_HW
          refine value_ (w1 := w') (v := .slice (some ad) l.length c) (by rfl) rfl ?_ ?_
          · go_simp
            (try simp only [i64_w])
            try rfl
            all_goals (try (unfold wrap64; omega))
          refine hK.out _ _ ⟨A9, c9, m9_, m10_, m11_, m13_, (by rw [ha.out]; exact putSel_upk 5 hb_ rfl rfl rfl), Q_HB, Q_HX, Q_HP, Q_HW, fun h0_ => absurd ((hoff 9 (by kernel_rfl)).symm.trans h0_) (by decide), fun h0_ => absurd ((hoff 9 (by kernel_rfl)).symm.trans h0_) (by decide), fun h0_ => absurd ((hoff 10 (by kernel_rfl)).symm.trans h0_) (by decide), fun h0_ => absurd ((hoff 11 (by kernel_rfl)).symm.trans h0_) (by decide), fun h0_ => absurd ((hoff 13 (by kernel_rfl)).symm.trans h0_) (by decide)⟩
        refine steps_cons ?_ ?_
        · rintro b a w' ⟨A9, c9, m9_, m10_, m11_, m13_, ha, Q_HB, Q_HX, Q_HP, Q_HW, Q_HX9, Q_X9_, Q_X10_, Q_X11_, Q_X13_⟩ hb_ hon hoff
          refine ⟨_, rfl, fun K hK => ?_⟩
          have e8 : a.tmps[8]? = some (.int .i64 (i : Int)) := by rw [ha]; exact (putSel_off rfl).trans rfl
          replace ha := Aside0.mk ha
          have HB := Aside0.mk Q_HB
          have HX := Aside0.mk Q_HX
          have HP := Aside0.mk Q_HP
          have HW := Aside0.mk Q_HW
          refine value_ (w1 := w') (v := .int .i64 (i : Int)) (by rfl) rfl ?_ ?_
          · go_simp
            (try simp only [i64_w])
            try rfl
            all_goals (try (unfold wrap64; omega))
          refine hK.out _ _ ⟨A9, c9, m9_, m10_, m11_, m13_, (by rw [ha.out]; exact putSel_upk 6 hb_ rfl rfl rfl), Q_HB, Q_HX, Q_HP, Q_HW, fun h0_ => absurd ((hoff 9 (by kernel_rfl)).symm.trans h0_) (by decide), fun h0_ => absurd ((hoff 9 (by kernel_rfl)).symm.trans h0_) (by decide), fun h0_ => absurd ((hoff 10 (by kernel_rfl)).symm.trans h0_) (by decide), fun h0_ => absurd ((hoff 11 (by kernel_rfl)).symm.trans h0_) (by decide), fun h0_ => absurd ((hoff 13 (by kernel_rfl)).symm.trans h0_) (by decide)⟩
        refine steps_cons ?_ ?_
        · rintro b a w' ⟨A9, c9, m9_, m10_, m11_, m13_, ha, Q_HB, Q_HX, Q_HP, Q_HW, Q_HX9, Q_X9_, Q_X10_, Q_X11_, Q_X13_⟩ hb_ hon hoff
          refine ⟨_, rfl, fun K hK => ?_⟩
          have e38 : a.tmps[38]? = some (.slice (some ad) l.length c) := by rw [ha]; exact putSel_on (e := (5, 38, .slice (some ad) l.length c)) 5 rfl rfl (hon 5 (by kernel_rfl)) rfl
          have e39 : a.tmps[39]? = some (.int .i64 (i : Int)) := by rw [ha]; exact putSel_on (e := (6, 39, .int .i64 (i : Int))) 6 rfl rfl (hon 6 (by kernel_rfl)) rfl
          replace ha := Aside0.mk ha
          have HB := Aside0.mk Q_HB
          have HX := Aside0.mk Q_HX
          have HP := Aside0.mk Q_HP
          have HW := Aside0.mk Q_HW
          refine value_ (w1 := w') (v := .pointer (some (ad.add i))) (by rfl) rfl ?_ ?_
          · go_simp
            (try simp only [i64_w])
            try rfl
            all_goals (try (unfold wrap64; omega))
          refine hK.out _ _ ⟨A9, c9, m9_, m10_, m11_, m13_, (by rw [ha.out]; exact putSel_upk 7 hb_ rfl rfl rfl), Q_HB, Q_HX, Q_HP, Q_HW, fun h0_ => absurd ((hoff 9 (by kernel_rfl)).symm.trans h0_) (by decide), fun h0_ => absurd ((hoff 9 (by kernel_rfl)).symm.trans h0_) (by decide), fun h0_ => absurd ((hoff 10 (by kernel_rfl)).symm.trans h0_) (by decide), fun h0_ => absurd ((hoff 11 (by kernel_rfl)).symm.trans h0_) (by decide), fun h0_ => absurd ((hoff 13 (by kernel_rfl)).symm.trans h0_) (by decide)⟩
        refine steps_cons ?_ ?_
        · rintro b a w' ⟨A9, c9, m9_, m10_, m11_, m13_, ha, Q_HB, Q_HX, Q_HP, Q_HW, Q_HX9, Q_X9_, Q_X10_, Q_X11_, Q_X13_⟩ hb_ hon hoff
          refine ⟨_, rfl, fun K hK => ?_⟩
          have e40 : a.tmps[40]? = some (.pointer (some (ad.add i))) := by rw [ha]; exact putSel_on (e := (7, 40, .pointer (some (ad.add i)))) 7 rfl rfl (hon 7 (by kernel_rfl)) rfl
          replace ha := Aside0.mk ha
          have HB := Aside0.mk Q_HB
          have HX := Aside0.mk Q_HX
          have HP := Aside0.mk Q_HP
          have HW := Aside0.mk Q_HW
          have hc_ := HCL.out w' HB.out
          refine value_ (w1 := w') (v := .int .u64 u) (by rfl) rfl ?_ ?_
          · go_simp
            (try simp only [i64_w])
            try rfl
            all_goals (try (unfold wrap64; omega))
          refine hK.out _ _ ⟨A9, c9, m9_, m10_, m11_, m13_, (by rw [ha.out]; exact putSel_upk 8 hb_ rfl rfl rfl), Q_HB, Q_HX, Q_HP, Q_HW, fun h0_ => absurd ((hoff 9 (by kernel_rfl)).symm.trans h0_) (by decide), fun h0_ => absurd ((hoff 9 (by kernel_rfl)).symm.trans h0_) (by decide), fun h0_ => absurd ((hoff 10 (by kernel_rfl)).symm.trans h0_) (by decide), fun h0_ => absurd ((hoff 11 (by kernel_rfl)).symm.trans h0_) (by decide), fun h0_ => absurd ((hoff 13 (by kernel_rfl)).symm.trans h0_) (by decide)⟩
        refine steps_cons ?_ ?_
        · rintro b a w' ⟨A9, c9, m9_, m10_, m11_, m13_, ha, Q_HB, Q_HX, Q_HP, Q_HW, Q_HX9, Q_X9_, Q_X10_, Q_X11_, Q_X13_⟩ hb_ hon hoff
          refine ⟨_, rfl, fun K hK => ?_⟩
          have e33 : a.tmps[33]? = some (.slice A5 X.length c5) := by rw [ha]; exact putSel_on (e := (0, 33, .slice A5 X.length c5)) 0 rfl rfl (hon 0 (by kernel_rfl)) rfl
          have e37 : a.tmps[37]? = some (.int .i64 n) := by rw [ha]; exact putSel_on (e := (4, 37, .int .i64 n)) 4 rfl rfl (hon 4 (by kernel_rfl)) rfl
          have e41 : a.tmps[41]? = some (.int .u64 u) := by rw [ha]; exact putSel_on (e := (8, 41, .int .u64 u)) 8 rfl rfl (hon 8 (by kernel_rfl)) rfl
          replace ha := Aside0.mk ha
          have HB := Aside0.mk Q_HB
          have HX := Aside0.mk Q_HX
          have HP := Aside0.mk Q_HP
          have HW := Aside0.mk Q_HW
          refine goes_ Try.func10 (by kernel_rfl) rfl #[.slice A5 X.length c5, .int .i64 n, .int .u64 u] (by rfl) rfl rfl (by first | (simp only [List.map_toArray, List.map_cons, List.map_nil, Act.eval, Array.getD_eq_getD_getElem?, Option.getD_some, e33, e37, e41]; done) | (simp only [List.map_toArray, List.map_cons, List.map_nil, Act.eval, Array.getD_eq_getD_getElem?, Option.getD_some, e33, e37, e41]; rfl)) ?_
          refine (HPUT.out w' HX.out HB.out.size).mono ?_
          rintro e w2_ ⟨A9_, c9_, rfl, hv, hb⟩
          refine ⟨_, rfl, ?_⟩
          refine hK.out _ _ ⟨A9_, c9_, (.tuple #[.slice A9_ X2.length c9_, .int .i64 Y]), m10_, m11_, m13_, (by rw [ha.out]; exact putSel_upk 9 hb_ rfl rfl rfl), below_then HB.out HB.out.size hb, Kd.R_below HX.out hb, Kd.R_below HP.out hb, Kd.R_below HW.out hb, fun _ => hv, fun _ => rfl, fun h0_ => absurd ((hoff 10 (by kernel_rfl)).symm.trans h0_) (by decide), fun h0_ => absurd ((hoff 11 (by kernel_rfl)).symm.trans h0_) (by decide), fun h0_ => absurd ((hoff 13 (by kernel_rfl)).symm.trans h0_) (by decide)⟩
        refine steps_cons ?_ ?_
        · rintro b a w' ⟨A9, c9, m9_, m10_, m11_, m13_, ha, Q_HB, Q_HX, Q_HP, Q_HW, Q_HX9, Q_X9_, Q_X10_, Q_X11_, Q_X13_⟩ hb_ hon hoff
          refine ⟨_, rfl, fun K hK => ?_⟩
          have e42 : a.tmps[42]? = some (m9_) := by rw [ha]; exact putSel_on (e := (9, 42, m9_)) 9 rfl rfl (hon 9 (by kernel_rfl)) rfl
          rw [Q_X9_ (hon 9 (by kernel_rfl))] at e42
          replace ha := Aside0.mk ha
          have HB := Aside0.mk Q_HB
          have HX := Aside0.mk Q_HX
          have HP := Aside0.mk Q_HP
          have HW := Aside0.mk Q_HW
          have HX9 := Aside0.mk (Q_HX9 (hon 9 (by kernel_rfl)))
          refine value_ (w1 := w') (v := .tuple #[.slice A9 X2.length c9, .int .i64 Y]) (by rfl) rfl ?_ ?_
          · go_simp
            (try simp only [i64_w])
            try rfl
            all_goals (try (unfold wrap64; omega))
          refine hK.out _ _ ⟨A9, c9, m9_, (.tuple #[.slice A9 X2.length c9, .int .i64 Y]), m11_, m13_, (by rw [ha.out]; exact putSel_upk 10 hb_ rfl rfl rfl), Q_HB, Q_HX, Q_HP, Q_HW, Q_HX9, Q_X9_, fun _ => rfl, fun h0_ => absurd ((hoff 11 (by kernel_rfl)).symm.trans h0_) (by decide), fun h0_ => absurd ((hoff 13 (by kernel_rfl)).symm.trans h0_) (by decide)⟩
        refine steps_cons ?_ ?_
        · rintro b a w' ⟨A9, c9, m9_, m10_, m11_, m13_, ha, Q_HB, Q_HX, Q_HP, Q_HW, Q_HX9, Q_X9_, Q_X10_, Q_X11_, Q_X13_⟩ hb_ hon hoff
          refine ⟨_, rfl, fun K hK => ?_⟩
          have e32 : a.tmps[32]? = some (m10_) := by rw [ha]; exact putSel_on (e := (10, 32, m10_)) 10 rfl rfl (hon 10 (by kernel_rfl)) rfl
          rw [Q_X10_ (hon 10 (by kernel_rfl))] at e32
          replace ha := Aside0.mk ha
          have HB := Aside0.mk Q_HB
          have HX := Aside0.mk Q_HX
          have HP := Aside0.mk Q_HP
          have HW := Aside0.mk Q_HW
          have HX9 := Aside0.mk (Q_HX9 (hon 9 (by kernel_rfl)))
          refine value_ (w1 := w') (v := .slice A9 X2.length c9) (by rfl) rfl ?_ ?_
          · go_simp
            (try simp only [i64_w])
            try rfl
            all_goals (try (unfold wrap64; omega))
          refine hK.out _ _ ⟨A9, c9, m9_, m10_, (.slice A9 X2.length c9), m13_, (by rw [ha.out]; exact putSel_upk 11 hb_ rfl rfl rfl), Q_HB, Q_HX, Q_HP, Q_HW, Q_HX9, Q_X9_, Q_X10_, fun _ => rfl, fun h0_ => absurd ((hoff 13 (by kernel_rfl)).symm.trans h0_) (by decide)⟩
        refine steps_cons ?_ ?_
        · rintro b a w' ⟨A9, c9, m9_, m10_, m11_, m13_, ha, Q_HB, Q_HX, Q_HP, Q_HW, Q_HX9, Q_X9_, Q_X10_, Q_X11_, Q_X13_⟩ hb_ hon hoff
          refine ⟨_, rfl, fun K hK => ?_⟩
          have e32 : a.tmps[32]? = some (m10_) := by rw [ha]; exact putSel_on (e := (10, 32, m10_)) 10 rfl rfl (hon 10 (by kernel_rfl)) rfl
          rw [Q_X10_ (hon 10 (by kernel_rfl))] at e32
          replace ha := Aside0.mk ha
          have HB := Aside0.mk Q_HB
          have HX := Aside0.mk Q_HX
          have HP := Aside0.mk Q_HP
          have HW := Aside0.mk Q_HW
          have HX9 := Aside0.mk (Q_HX9 (hon 9 (by kernel_rfl)))
          refine value_ (w1 := w') (v := .int .i64 Y) (by rfl) rfl ?_ ?_
          · go_simp
            (try simp only [i64_w])
            try rfl
            all_goals (try (unfold wrap64; omega))
          refine hK.out _ _ ⟨A9, c9, m9_, m10_, m11_, m13_, (by rw [ha.out]; exact putSel_upk 12 hb_ rfl rfl rfl), Q_HB, Q_HX, Q_HP, Q_HW, Q_HX9, Q_X9_, Q_X10_, Q_X11_, Q_X13_⟩
        refine steps_cons ?_ ?_
        · rintro b a w' ⟨A9, c9, m9_, m10_, m11_, m13_, ha, Q_HB, Q_HX, Q_HP, Q_HW, Q_HX9, Q_X9_, Q_X10_, Q_X11_, Q_X13_⟩ hb_ hon hoff
          refine ⟨_, rfl, fun K hK => ?_⟩
          have e43 : a.tmps[43]? = some (m11_) := by rw [ha]; exact putSel_on (e := (11, 43, m11_)) 11 rfl rfl (hon 11 (by kernel_rfl)) rfl
          rw [Q_X11_ (hon 11 (by kernel_rfl))] at e43
          replace ha := Aside0.mk ha
          have HB := Aside0.mk Q_HB
          have HX := Aside0.mk Q_HX
          have HP := Aside0.mk Q_HP
          have HW := Aside0.mk Q_HW
          have HX9 := Aside0.mk (Q_HX9 (hon 9 (by kernel_rfl)))
          refine value_ (w1 := w') (v := .slice A9 X2.length c9) (by rfl) rfl ?_ ?_
          · go_simp
            (try simp only [i64_w])
            try rfl
            all_goals (try (unfold wrap64; omega))
          refine hK.out _ _ ⟨A9, c9, m9_, m10_, m11_, (.slice A9 X2.length c9), (by rw [ha.out]; exact putSel_upk 13 hb_ rfl rfl rfl), Q_HB, Q_HX, Q_HP, Q_HW, Q_HX9, Q_X9_, Q_X10_, Q_X11_, fun _ => rfl⟩
        refine steps_cons ?_ ?_
        · rintro b a w' ⟨A9, c9, m9_, m10_, m11_, m13_, ha, Q_HB, Q_HX, Q_HP, Q_HW, Q_HX9, Q_X9_, Q_X10_, Q_X11_, Q_X13_⟩ hb_ hon hoff
          refine ⟨_, rfl, fun K hK => ?_⟩
          have e44 : a.tmps[44]? = some (.int .i64 Y) := by rw [ha]; exact putSel_on (e := (12, 44, .int .i64 Y)) 12 rfl rfl (hon 12 (by kernel_rfl)) rfl
          replace ha := Aside0.mk ha
          have HB := Aside0.mk Q_HB
          have HX := Aside0.mk Q_HX
          have HP := Aside0.mk Q_HP
          have HW := Aside0.mk Q_HW
          have HX9 := Aside0.mk (Q_HX9 (hon 9 (by kernel_rfl)))
          refine value_ (w1 := w') (v := .int .i64 Y) (by rfl) rfl ?_ ?_
          · go_simp
            (try simp only [i64_w])
            try rfl
            all_goals (try (unfold wrap64; omega))
          refine hK.out _ _ ⟨A9, c9, m9_, m10_, m11_, m13_, (by rw [ha.out]; exact putSel_upk 14 hb_ rfl rfl rfl), Q_HB, Q_HX, Q_HP, Q_HW, Q_HX9, Q_X9_, Q_X10_, Q_X11_, Q_X13_⟩
        exact steps_nil
      rintro b a w6 hall ⟨A9, c9, m9_, m10_, m11_, m13_, ha, Q_HB, Q_HX, Q_HP, Q_HW, Q_HX9, Q_X9_, Q_X10_, Q_X11_, Q_X13_⟩
      clear HB HP HW HX
      have hb0_ := hall 0 (by kernel_rfl)
      have hb1_ := hall 1 (by kernel_rfl)
      have hb2_ := hall 2 (by kernel_rfl)
      have hb3_ := hall 3 (by kernel_rfl)
      have hb4_ := hall 4 (by kernel_rfl)
      have hb5_ := hall 5 (by kernel_rfl)
      have hb6_ := hall 6 (by kernel_rfl)
      have hb7_ := hall 7 (by kernel_rfl)
      have hb8_ := hall 8 (by kernel_rfl)
      have hb9_ := hall 9 (by kernel_rfl)
      have hb10_ := hall 10 (by kernel_rfl)
      have hb11_ := hall 11 (by kernel_rfl)
      have hb12_ := hall 12 (by kernel_rfl)
      have hb13_ := hall 13 (by kernel_rfl)
      have hb14_ := hall 14 (by kernel_rfl)
      subst ha
      obtain rfl := Q_X9_ hb9_
      obtain rfl := Q_X10_ hb10_
      obtain rfl := Q_X11_ hb11_
      obtain rfl := Q_X13_ hb13_
      simp only [putSel, hb0_, hb1_, hb2_, hb3_, hb4_, hb5_, hb6_, hb7_, hb8_, hb9_, hb10_, hb11_, hb12_, hb13_, hb14_, if_true, Act.put, List.setIfInBounds_toArray, List.set_cons_zero, List.set_cons_succ]
      have HB := Aside0.mk Q_HB
      clear Q_HB
      have HX := Aside0.mk Q_HX
      clear Q_HX
      have HP := Aside0.mk Q_HP
      clear Q_HP
      have HW := Aside0.mk Q_HW
      clear Q_HW
      have HX9 := Aside0.mk (Q_HX9 hb9_)
      clear Q_HX9
      clear hall hb0_ hb1_ hb2_ hb3_ hb4_ hb5_ hb6_ hb7_ hb8_ hb9_ hb10_ hb11_ hb12_ hb13_ hb14_
      by_cases hY0 : Y = 0
      · subst hY0
        have hfit := HFIT.out rfl
        have HF1 := Aside0.mk hfit.1
        have HF2 := Aside0.mk hfit.2
        have hp8 : (P.length + 1) * 8 ≤ 140737488355328 := by omega
        have hw8 : (W.length + 1) * 8 ≤ 140737488355328 := by have := HG.out.len; omega
        clear hfit HFIT HPUT
        go_wp2_with fail
        replace HX9 := Aside0.mk (Kd.R_drew HX9.out)
        replace HP := Aside0.mk (Kd.R_drew HP.out)
        replace HW := Aside0.mk (Kd.R_drew HW.out)
        replace HB := Aside0.mk (below_drew HB.out)
        clear HX
        refine start_ (n := 18) (S := fun w' => True) (ds := []) #[false, false, false, false, false, false, false, false, false, false, false, false, false, false, false, false, false, false] (by kernel_rfl) rfl rfl trivial (fun hHeld => ?_)
        refine with_tabW back11.tab11 back11.bits11 (fun HT_ HW_ => ?_)
        refine inv_at [0, 1, 2, 3, 4, 5, 6, 7, 8, 9, 10, 11, 12, 13, 14, 15, 16, 17] (fun a0_ b a w' => ∃ (g53 : Nat) (g60 : Nat) (v54 : Value) (v61 : Value) (m6_ : Value) (m13_ : Value) (m16_ : Value) (m17_ : Value), a = putSel a0_ b [(0, 47, .slice A9 X2.length c9), (1, 48, .slice A6 P.length c6), (2, 49, .slice (some ad) l.length c), (3, 50, .int .i64 (i : Int)), (4, 51, .pointer (some (ad.add i))), (5, 52, .int .u64 u), (6, 53, m6_), (7, 54, v54), (8, 55, .slice A7 W.length c7), (9, 56, .slice (some bd) m.length d), (10, 57, .int .i64 (i : Int)), (11, 58, .pointer (some (bd.add i))), (12, 59, .int .i64 n), (13, 60, m13_), (14, 61, v61), (15, 5, .slice A9 X2.length c9), (16, 6, m16_), (17, 7, m17_)] ∧ (Below w.heap.size w w') ∧ (Kd.R (Kd.int .u8) 5 w' w.heap.size (fun _ => True) (.slice A9 X2.length c9) X2) ∧ (b 7 = false → Kd.R (Kd.int .u64) 23 w' w.heap.size (fun _ => True) (.slice A6 P.length c6) P) ∧ (b 14 = false → Kd.R (Kd.int .i64) 3 w' w.heap.size (fun _ => True) (.slice A7 W.length c7) W) ∧ (b 6 = true → b 7 = false → Kd.R (Kd.int .u64) 23 w' w.heap.size (fun _ => True) (.slice (some ⟨g53, 0, none⟩) 1 1) [u]) ∧ (b 13 = true → b 14 = false → Kd.R (Kd.int .i64) 3 w' w.heap.size (fun _ => True) (.slice (some ⟨g60, 0, none⟩) 1 1) [n]) ∧ (b 7 = true → Kd.R (Kd.int .u64) 23 w' w.heap.size (fun _ => True) v54 (P ++ [u])) ∧ (b 14 = true → Kd.R (Kd.int .i64) 3 w' w.heap.size (fun _ => True) v61 (W ++ [n])) ∧ (b 6 = true → (m6_ : Value) = .slice (some ⟨g53, 0, none⟩) 1 1) ∧ (b 13 = true → (m13_ : Value) = .slice (some ⟨g60, 0, none⟩) 1 1) ∧ (b 16 = true → (m16_ : Value) = v54) ∧ (b 17 = true → (m17_ : Value) = v61)) HT_.out HW_.out (by kernel_rfl) (by kernel_rfl) ?_ ?_ ?_
        · exact ⟨0, 0, .bool false, .bool false, .bool false, .bool false, .bool false, .bool false, by simp only [putSel, Bool.false_eq_true, if_false], HB.out, HX9.out, fun _ => HP.out, fun _ => HW.out, fun h_ => absurd h_ (by decide), fun h_ => absurd h_ (by decide), fun h_ => absurd h_ (by decide), fun h_ => absurd h_ (by decide), fun h_ => absurd h_ (by decide), fun h_ => absurd h_ (by decide), fun h_ => absurd h_ (by decide), fun h_ => absurd h_ (by decide)⟩
        · skip
          clear HB HP HW HX9
          refine steps_cons ?_ ?_
          · rintro b a w' ⟨g53, g60, v54, v61, m6_, m13_, m16_, m17_, ha, Q_HB, Q_HX9, Q_HP, Q_HW, Q_H53, Q_H60, Q_HP2, Q_HW2, Q_X6_, Q_X13_, Q_X16_, Q_X17_⟩ hb_ hon hoff
            refine ⟨_, rfl, fun K hK => ?_⟩
            have e9 : a.tmps[9]? = some (.slice A9 X2.length c9) := by rw [ha]; exact (putSel_off rfl).trans rfl
            replace ha := Aside0.mk ha
            have HB := Aside0.mk Q_HB
            have HX9 := Aside0.mk Q_HX9
            refine value_ (w1 := w') (v := .slice A9 X2.length c9) (by rfl) rfl ?_ ?_
            · go_simp
              (try simp only [i64_w])
              try rfl
              all_goals (try (unfold wrap64; omega))
            refine hK.out _ _ ⟨g53, g60, v54, v61, m6_, m13_, m16_, m17_, (by rw [ha.out]; exact putSel_upk 0 hb_ rfl rfl rfl), Q_HB, Q_HX9, Q_HP, Q_HW, Q_H53, Q_H60, Q_HP2, Q_HW2, Q_X6_, Q_X13_, fun h0_ => absurd ((hoff 16 (by kernel_rfl)).symm.trans h0_) (by decide), fun h0_ => absurd ((hoff 17 (by kernel_rfl)).symm.trans h0_) (by decide)⟩
          refine steps_cons ?_ ?_
          · rintro b a w' ⟨g53, g60, v54, v61, m6_, m13_, m16_, m17_, ha, Q_HB, Q_HX9, Q_HP, Q_HW, Q_H53, Q_H60, Q_HP2, Q_HW2, Q_X6_, Q_X13_, Q_X16_, Q_X17_⟩ hb_ hon hoff
            refine ⟨_, rfl, fun K hK => ?_⟩
            have e6 : a.tmps[6]? = some (.slice A6 P.length c6) := by rw [ha]; exact (putSel_not (hoff 16 (by kernel_rfl)) rfl).trans rfl
            replace ha := Aside0.mk ha
            have HB := Aside0.mk Q_HB
            have HX9 := Aside0.mk Q_HX9
            have HP := Aside0.mk (Q_HP (hoff 7 (by kernel_rfl)))
            have HW := Aside0.mk (Q_HW (hoff 14 (by kernel_rfl)))
            refine value_ (w1 := w') (v := .slice A6 P.length c6) (by rfl) rfl ?_ ?_
            · go_simp
              (try simp only [i64_w])
              try rfl
              all_goals (try (unfold wrap64; omega))
            refine hK.out _ _ ⟨g53, g60, v54, v61, m6_, m13_, m16_, m17_, (by rw [ha.out]; exact putSel_upk 1 hb_ rfl rfl rfl), Q_HB, Q_HX9, Q_HP, Q_HW, Q_H53, Q_H60, fun h0_ => absurd ((hoff 7 (by kernel_rfl)).symm.trans h0_) (by decide), fun h0_ => absurd ((hoff 14 (by kernel_rfl)).symm.trans h0_) (by decide), Q_X6_, Q_X13_, fun h0_ => absurd ((hoff 16 (by kernel_rfl)).symm.trans h0_) (by decide), fun h0_ => absurd ((hoff 17 (by kernel_rfl)).symm.trans h0_) (by decide)⟩
          refine steps_cons ?_ ?_
          · rintro b a w' ⟨g53, g60, v54, v61, m6_, m13_, m16_, m17_, ha, Q_HB, Q_HX9, Q_HP, Q_HW, Q_H53, Q_H60, Q_HP2, Q_HW2, Q_X6_, Q_X13_, Q_X16_, Q_X17_⟩ hb_ hon hoff
            refine ⟨_, rfl, fun K hK => ?_⟩
            have e0 : a.tmps[0]? = some (.slice (some ad) l.length c) := by rw [ha]; exact (putSel_off rfl).trans rfl
            replace ha := Aside0.mk ha
            have HB := Aside0.mk Q_HB
            have HX9 := Aside0.mk Q_HX9
            have HP := Aside0.mk (Q_HP (hoff 7 (by kernel_rfl)))
            have HW := Aside0.mk (Q_HW (hoff 14 (by kernel_rfl)))
            refine value_ (w1 := w') (v := .slice (some ad) l.length c) (by rfl) rfl ?_ ?_
            · go_simp
              (try simp only [i64_w])
              try rfl
              all_goals (try (unfold wrap64; omega))
            refine hK.out _ _ ⟨g53, g60, v54, v61, m6_, m13_, m16_, m17_, (by rw [ha.out]; exact putSel_upk 2 hb_ rfl rfl rfl), Q_HB, Q_HX9, Q_HP, Q_HW, fun h0_ _ => absurd ((hoff 6 (by kernel_rfl)).symm.trans h0_) (by decide), Q_H60, fun h0_ => absurd ((hoff 7 (by kernel_rfl)).symm.trans h0_) (by decide), fun h0_ => absurd ((hoff 14 (by kernel_rfl)).symm.trans h0_) (by decide), fun h0_ => absurd ((hoff 6 (by kernel_rfl)).symm.trans h0_) (by decide), Q_X13_, fun h0_ => absurd ((hoff 16 (by kernel_rfl)).symm.trans h0_) (by decide), fun h0_ => absurd ((hoff 17 (by kernel_rfl)).symm.trans h0_) (by decide)⟩
          refine steps_cons ?_ ?_
          · rintro b a w' ⟨g53, g60, v54, v61, m6_, m13_, m16_, m17_, ha, Q_HB, Q_HX9, Q_HP, Q_HW, Q_H53, Q_H60, Q_HP2, Q_HW2, Q_X6_, Q_X13_, Q_X16_, Q_X17_⟩ hb_ hon hoff
            refine ⟨_, rfl, fun K hK => ?_⟩
            have e8 : a.tmps[8]? = some (.int .i64 (i : Int)) := by rw [ha]; exact (putSel_off rfl).trans rfl
            replace ha := Aside0.mk ha
            have HB := Aside0.mk Q_HB
            have HX9 := Aside0.mk Q_HX9
            have HP := Aside0.mk (Q_HP (hoff 7 (by kernel_rfl)))
            have HW := Aside0.mk (Q_HW (hoff 14 (by kernel_rfl)))
            refine value_ (w1 := w') (v := .int .i64 (i : Int)) (by rfl) rfl ?_ ?_
            · go_simp
              (try simp only [i64_w])
              try rfl
              all_goals (try (unfold wrap64; omega))
            refine hK.out _ _ ⟨g53, g60, v54, v61, m6_, m13_, m16_, m17_, (by rw [ha.out]; exact putSel_upk 3 hb_ rfl rfl rfl), Q_HB, Q_HX9, Q_HP, Q_HW, fun h0_ _ => absurd ((hoff 6 (by kernel_rfl)).symm.trans h0_) (by decide), Q_H60, fun h0_ => absurd ((hoff 7 (by kernel_rfl)).symm.trans h0_) (by decide), fun h0_ => absurd ((hoff 14 (by kernel_rfl)).symm.trans h0_) (by decide), fun h0_ => absurd ((hoff 6 (by kernel_rfl)).symm.trans h0_) (by decide), Q_X13_, fun h0_ => absurd ((hoff 16 (by kernel_rfl)).symm.trans h0_) (by decide), fun h0_ => absurd ((hoff 17 (by kernel_rfl)).symm.trans h0_) (by decide)⟩
          refine steps_cons ?_ ?_
          · rintro b a w' ⟨g53, g60, v54, v61, m6_, m13_, m16_, m17_, ha, Q_HB, Q_HX9, Q_HP, Q_HW, Q_H53, Q_H60, Q_HP2, Q_HW2, Q_X6_, Q_X13_, Q_X16_, Q_X17_⟩ hb_ hon hoff
            refine ⟨_, rfl, fun K hK => ?_⟩
            have e49 : a.tmps[49]? = some (.slice (some ad) l.length c) := by rw [ha]; exact putSel_on (e := (2, 49, .slice (some ad) l.length c)) 2 rfl rfl (hon 2 (by kernel_rfl)) rfl
            have e50 : a.tmps[50]? = some (.int .i64 (i : Int)) := by rw [ha]; exact putSel_on (e := (3, 50, .int .i64 (i : Int))) 3 rfl rfl (hon 3 (by kernel_rfl)) rfl
            replace ha := Aside0.mk ha
            have HB := Aside0.mk Q_HB
            have HX9 := Aside0.mk Q_HX9
            have HP := Aside0.mk (Q_HP (hoff 7 (by kernel_rfl)))
            have HW := Aside0.mk (Q_HW (hoff 14 (by kernel_rfl)))
            refine value_ (w1 := w') (v := .pointer (some (ad.add i))) (by rfl) rfl ?_ ?_
            · go_simp
              (try simp only [i64_w])
              try rfl
              all_goals (try (unfold wrap64; omega))
            refine hK.out _ _ ⟨g53, g60, v54, v61, m6_, m13_, m16_, m17_, (by rw [ha.out]; exact putSel_upk 4 hb_ rfl rfl rfl), Q_HB, Q_HX9, Q_HP, Q_HW, fun h0_ _ => absurd ((hoff 6 (by kernel_rfl)).symm.trans h0_) (by decide), Q_H60, fun h0_ => absurd ((hoff 7 (by kernel_rfl)).symm.trans h0_) (by decide), fun h0_ => absurd ((hoff 14 (by kernel_rfl)).symm.trans h0_) (by decide), fun h0_ => absurd ((hoff 6 (by kernel_rfl)).symm.trans h0_) (by decide), Q_X13_, fun h0_ => absurd ((hoff 16 (by kernel_rfl)).symm.trans h0_) (by decide), fun h0_ => absurd ((hoff 17 (by kernel_rfl)).symm.trans h0_) (by decide)⟩
          refine steps_cons ?_ ?_
          · rintro b a w' ⟨g53, g60, v54, v61, m6_, m13_, m16_, m17_, ha, Q_HB, Q_HX9, Q_HP, Q_HW, Q_H53, Q_H60, Q_HP2, Q_HW2, Q_X6_, Q_X13_, Q_X16_, Q_X17_⟩ hb_ hon hoff
            refine ⟨_, rfl, fun K hK => ?_⟩
            have e51 : a.tmps[51]? = some (.pointer (some (ad.add i))) := by rw [ha]; exact putSel_on (e := (4, 51, .pointer (some (ad.add i)))) 4 rfl rfl (hon 4 (by kernel_rfl)) rfl
            replace ha := Aside0.mk ha
            have HB := Aside0.mk Q_HB
            have HX9 := Aside0.mk Q_HX9
            have HP := Aside0.mk (Q_HP (hoff 7 (by kernel_rfl)))
            have HW := Aside0.mk (Q_HW (hoff 14 (by kernel_rfl)))
            have hc_ := HCL.out w' HB.out
            refine value_ (w1 := w') (v := .int .u64 u) (by rfl) rfl ?_ ?_
            · go_simp
              (try simp only [i64_w])
              try rfl
              all_goals (try (unfold wrap64; omega))
            refine hK.out _ _ ⟨g53, g60, v54, v61, m6_, m13_, m16_, m17_, (by rw [ha.out]; exact putSel_upk 5 hb_ rfl rfl rfl), Q_HB, Q_HX9, Q_HP, Q_HW, fun h0_ _ => absurd ((hoff 6 (by kernel_rfl)).symm.trans h0_) (by decide), Q_H60, fun h0_ => absurd ((hoff 7 (by kernel_rfl)).symm.trans h0_) (by decide), fun h0_ => absurd ((hoff 14 (by kernel_rfl)).symm.trans h0_) (by decide), fun h0_ => absurd ((hoff 6 (by kernel_rfl)).symm.trans h0_) (by decide), Q_X13_, fun h0_ => absurd ((hoff 16 (by kernel_rfl)).symm.trans h0_) (by decide), fun h0_ => absurd ((hoff 17 (by kernel_rfl)).symm.trans h0_) (by decide)⟩
          refine steps_cons ?_ ?_
          · rintro b a w' ⟨g53, g60, v54, v61, m6_, m13_, m16_, m17_, ha, Q_HB, Q_HX9, Q_HP, Q_HW, Q_H53, Q_H60, Q_HP2, Q_HW2, Q_X6_, Q_X13_, Q_X16_, Q_X17_⟩ hb_ hon hoff
            refine ⟨_, rfl, fun K hK => ?_⟩
            have e52 : a.tmps[52]? = some (.int .u64 u) := by rw [ha]; exact putSel_on (e := (5, 52, .int .u64 u)) 5 rfl rfl (hon 5 (by kernel_rfl)) rfl
            replace ha := Aside0.mk ha
            have HB := Aside0.mk Q_HB
            have HX9 := Aside0.mk Q_HX9
            have HP := Aside0.mk (Q_HP (hoff 7 (by kernel_rfl)))
            have HW := Aside0.mk (Q_HW (hoff 14 (by kernel_rfl)))
            refine value_ (w1 := w'.alloc (.cells #[.int .u64 u] 23)) (v := .slice (some ⟨w'.heap.size, 0, none⟩) 1 1) (by rfl) rfl ?_ ?_
            · go_simp
              try rfl
              all_goals (try (unfold wrap64; omega))
            have hb : Below w'.heap.size w' (w'.alloc (.cells #[.int .u64 u] 23)) := below_alloc (Below.refl _ _) _
            have hlit := lit_one .u64 23 w' w.heap.size HB.out.size u
            refine hK.out _ _ ⟨w'.heap.size, g60, v54, v61, (.slice (some ⟨w'.heap.size, 0, none⟩) 1 1), m13_, m16_, m17_, (by rw [ha.out]; exact putSel_upk 6 hb_ rfl rfl rfl), below_then HB.out HB.out.size hb, Kd.R_below HX9.out hb, fun _ => Kd.R_below HP.out hb, fun _ => Kd.R_below HW.out hb, fun _ _ => hlit, fun h0_ h1_ => Kd.R_below (Q_H60 h0_ h1_) hb, fun h0_ => absurd ((hoff 7 (by kernel_rfl)).symm.trans h0_) (by decide), fun h0_ => absurd ((hoff 14 (by kernel_rfl)).symm.trans h0_) (by decide), fun _ => rfl, Q_X13_, fun h0_ => absurd ((hoff 16 (by kernel_rfl)).symm.trans h0_) (by decide), fun h0_ => absurd ((hoff 17 (by kernel_rfl)).symm.trans h0_) (by decide)⟩
          refine steps_cons ?_ ?_
          · rintro b a w' ⟨g53, g60, v54, v61, m6_, m13_, m16_, m17_, ha, Q_HB, Q_HX9, Q_HP, Q_HW, Q_H53, Q_H60, Q_HP2, Q_HW2, Q_X6_, Q_X13_, Q_X16_, Q_X17_⟩ hb_ hon hoff
            refine ⟨_, rfl, fun K hK => ?_⟩
            have e48 : a.tmps[48]? = some (.slice A6 P.length c6) := by rw [ha]; exact putSel_on (e := (1, 48, .slice A6 P.length c6)) 1 rfl rfl (hon 1 (by kernel_rfl)) rfl
            have e53 : a.tmps[53]? = some (m6_) := by rw [ha]; exact putSel_on (e := (6, 53, m6_)) 6 rfl rfl (hon 6 (by kernel_rfl)) rfl
            rw [Q_X6_ (hon 6 (by kernel_rfl))] at e53
            replace ha := Aside0.mk ha
            have HB := Aside0.mk Q_HB
            have HX9 := Aside0.mk Q_HX9
            have HP := Aside0.mk (Q_HP hb_)
            have HW := Aside0.mk (Q_HW (hoff 14 (by kernel_rfl)))
            have H53 := Aside0.mk (Q_H53 (hon 6 (by kernel_rfl)) hb_)
            refine Kd.R_append_rows_step (Kd.int .u64) (w0 := w) w.heap.size (by rfl) (.tmp 48) (.tmp 53) 32 23 (.int .u64 0) 8 rfl Try.underlying32 infoU rfl (by decide) (by omega) (.slice A6 P.length c6) P [u] (some ⟨g53, 0, none⟩) 1 1 (fun _ => True) (fun _ => False) (eval_of e48) (eval_of e53) HP.out (Kd.R_reads' H53.out).2.2 (fun _ _ h => h) (fun _ h => h.elim) (fun _ _ => trivial) HB.out HB.out.size hp8 ?_
            intro v1 w1 ho hb2 hg hat
            refine hK.out _ _ ⟨g53, g60, v1, v61, m6_, m13_, m16_, m17_, (by rw [ha.out]; exact putSel_upk 7 hb_ rfl rfl rfl), hb2, Kd.R_over HX9.out HP.out (by intro q hq; simp [Kd.int, Kd.scalar] at hq; omega) hg, fun h0_ => absurd ((up_self b 7).symm.trans h0_) (by decide), fun _ => Kd.R_over HW.out HP.out (by intro q hq; simp [Kd.int, Kd.scalar] at hq; omega) hg, fun _ h1_ => absurd ((up_self b 7).symm.trans h1_) (by decide), fun h0_ h1_ => Kd.R_over (Q_H60 h0_ h1_) HP.out (by intro q hq; simp [Kd.int, Kd.scalar] at hq; omega) hg, fun _ => ho, fun h0_ => absurd ((hoff 14 (by kernel_rfl)).symm.trans h0_) (by decide), Q_X6_, Q_X13_, fun h0_ => absurd ((hoff 16 (by kernel_rfl)).symm.trans h0_) (by decide), fun h0_ => absurd ((hoff 17 (by kernel_rfl)).symm.trans h0_) (by decide)⟩
          refine steps_cons ?_ ?_
          · rintro b a w' ⟨g53, g60, v54, v61, m6_, m13_, m16_, m17_, ha, Q_HB, Q_HX9, Q_HP, Q_HW, Q_H53, Q_H60, Q_HP2, Q_HW2, Q_X6_, Q_X13_, Q_X16_, Q_X17_⟩ hb_ hon hoff
            refine ⟨_, rfl, fun K hK => ?_⟩
            have e7 : a.tmps[7]? = some (.slice A7 W.length c7) := by rw [ha]; exact (putSel_not (hoff 17 (by kernel_rfl)) rfl).trans rfl
            replace ha := Aside0.mk ha
            have HB := Aside0.mk Q_HB
            have HX9 := Aside0.mk Q_HX9
            have HW := Aside0.mk (Q_HW (hoff 14 (by kernel_rfl)))
            refine value_ (w1 := w') (v := .slice A7 W.length c7) (by rfl) rfl ?_ ?_
            · go_simp
              (try simp only [i64_w])
              try rfl
              all_goals (try (unfold wrap64; omega))
            refine hK.out _ _ ⟨g53, g60, v54, v61, m6_, m13_, m16_, m17_, (by rw [ha.out]; exact putSel_upk 8 hb_ rfl rfl rfl), Q_HB, Q_HX9, Q_HP, Q_HW, Q_H53, Q_H60, Q_HP2, fun h0_ => absurd ((hoff 14 (by kernel_rfl)).symm.trans h0_) (by decide), Q_X6_, Q_X13_, fun h0_ => absurd ((hoff 16 (by kernel_rfl)).symm.trans h0_) (by decide), fun h0_ => absurd ((hoff 17 (by kernel_rfl)).symm.trans h0_) (by decide)⟩
          refine steps_cons ?_ ?_
          · rintro b a w' ⟨g53, g60, v54, v61, m6_, m13_, m16_, m17_, ha, Q_HB, Q_HX9, Q_HP, Q_HW, Q_H53, Q_H60, Q_HP2, Q_HW2, Q_X6_, Q_X13_, Q_X16_, Q_X17_⟩ hb_ hon hoff
            refine ⟨_, rfl, fun K hK => ?_⟩
            have e1 : a.tmps[1]? = some (.slice (some bd) m.length d) := by rw [ha]; exact (putSel_off rfl).trans rfl
            replace ha := Aside0.mk ha
            have HB := Aside0.mk Q_HB
            have HX9 := Aside0.mk Q_HX9
            have HW := Aside0.mk (Q_HW (hoff 14 (by kernel_rfl)))
            refine value_ (w1 := w') (v := .slice (some bd) m.length d) (by rfl) rfl ?_ ?_
            · go_simp
              (try simp only [i64_w])
              try rfl
              all_goals (try (unfold wrap64; omega))
            refine hK.out _ _ ⟨g53, g60, v54, v61, m6_, m13_, m16_, m17_, (by rw [ha.out]; exact putSel_upk 9 hb_ rfl rfl rfl), Q_HB, Q_HX9, Q_HP, Q_HW, Q_H53, fun h0_ _ => absurd ((hoff 13 (by kernel_rfl)).symm.trans h0_) (by decide), Q_HP2, fun h0_ => absurd ((hoff 14 (by kernel_rfl)).symm.trans h0_) (by decide), Q_X6_, fun h0_ => absurd ((hoff 13 (by kernel_rfl)).symm.trans h0_) (by decide), fun h0_ => absurd ((hoff 16 (by kernel_rfl)).symm.trans h0_) (by decide), fun h0_ => absurd ((hoff 17 (by kernel_rfl)).symm.trans h0_) (by decide)⟩
          refine steps_cons ?_ ?_
          · rintro b a w' ⟨g53, g60, v54, v61, m6_, m13_, m16_, m17_, ha, Q_HB, Q_HX9, Q_HP, Q_HW, Q_H53, Q_H60, Q_HP2, Q_HW2, Q_X6_, Q_X13_, Q_X16_, Q_X17_⟩ hb_ hon hoff
            refine ⟨_, rfl, fun K hK => ?_⟩
            have e8 : a.tmps[8]? = some (.int .i64 (i : Int)) := by rw [ha]; exact (putSel_off rfl).trans rfl
            replace ha := Aside0.mk ha
            have HB := Aside0.mk Q_HB
            have HX9 := Aside0.mk Q_HX9
            have HW := Aside0.mk (Q_HW (hoff 14 (by kernel_rfl)))
            refine value_ (w1 := w') (v := .int .i64 (i : Int)) (by rfl) rfl ?_ ?_
            · go_simp
              (try simp only [i64_w])
              try rfl
              all_goals (try (unfold wrap64; omega))
            refine hK.out _ _ ⟨g53, g60, v54, v61, m6_, m13_, m16_, m17_, (by rw [ha.out]; exact putSel_upk 10 hb_ rfl rfl rfl), Q_HB, Q_HX9, Q_HP, Q_HW, Q_H53, fun h0_ _ => absurd ((hoff 13 (by kernel_rfl)).symm.trans h0_) (by decide), Q_HP2, fun h0_ => absurd ((hoff 14 (by kernel_rfl)).symm.trans h0_) (by decide), Q_X6_, fun h0_ => absurd ((hoff 13 (by kernel_rfl)).symm.trans h0_) (by decide), fun h0_ => absurd ((hoff 16 (by kernel_rfl)).symm.trans h0_) (by decide), fun h0_ => absurd ((hoff 17 (by kernel_rfl)).symm.trans h0_) (by decide)⟩
          refine steps_cons ?_ ?_
          · rintro b a w' ⟨g53, g60, v54, v61, m6_, m13_, m16_, m17_, ha, Q_HB, Q_HX9, Q_HP, Q_HW, Q_H53, Q_H60, Q_HP2, Q_HW2, Q_X6_, Q_X13_, Q_X16_, Q_X17_⟩ hb_ hon hoff
            refine ⟨_, rfl, fun K hK => ?_⟩
            have e56 : a.tmps[56]? = some (.slice (some bd) m.length d) := by rw [ha]; exact putSel_on (e := (9, 56, .slice (some bd) m.length d)) 9 rfl rfl (hon 9 (by kernel_rfl)) rfl
            have e57 : a.tmps[57]? = some (.int .i64 (i : Int)) := by rw [ha]; exact putSel_on (e := (10, 57, .int .i64 (i : Int))) 10 rfl rfl (hon 10 (by kernel_rfl)) rfl
            replace ha := Aside0.mk ha
            have HB := Aside0.mk Q_HB
            have HX9 := Aside0.mk Q_HX9
            have HW := Aside0.mk (Q_HW (hoff 14 (by kernel_rfl)))
            refine value_ (w1 := w') (v := .pointer (some (bd.add i))) (by rfl) rfl ?_ ?_
            · go_simp
              (try simp only [i64_w])
              try rfl
              all_goals (try (unfold wrap64; omega))
            refine hK.out _ _ ⟨g53, g60, v54, v61, m6_, m13_, m16_, m17_, (by rw [ha.out]; exact putSel_upk 11 hb_ rfl rfl rfl), Q_HB, Q_HX9, Q_HP, Q_HW, Q_H53, fun h0_ _ => absurd ((hoff 13 (by kernel_rfl)).symm.trans h0_) (by decide), Q_HP2, fun h0_ => absurd ((hoff 14 (by kernel_rfl)).symm.trans h0_) (by decide), Q_X6_, fun h0_ => absurd ((hoff 13 (by kernel_rfl)).symm.trans h0_) (by decide), fun h0_ => absurd ((hoff 16 (by kernel_rfl)).symm.trans h0_) (by decide), fun h0_ => absurd ((hoff 17 (by kernel_rfl)).symm.trans h0_) (by decide)⟩
          refine steps_cons ?_ ?_
          · rintro b a w' ⟨g53, g60, v54, v61, m6_, m13_, m16_, m17_, ha, Q_HB, Q_HX9, Q_HP, Q_HW, Q_H53, Q_H60, Q_HP2, Q_HW2, Q_X6_, Q_X13_, Q_X16_, Q_X17_⟩ hb_ hon hoff
            refine ⟨_, rfl, fun K hK => ?_⟩
            have e58 : a.tmps[58]? = some (.pointer (some (bd.add i))) := by rw [ha]; exact putSel_on (e := (11, 58, .pointer (some (bd.add i)))) 11 rfl rfl (hon 11 (by kernel_rfl)) rfl
            replace ha := Aside0.mk ha
            have HB := Aside0.mk Q_HB
            have HX9 := Aside0.mk Q_HX9
            have HW := Aside0.mk (Q_HW (hoff 14 (by kernel_rfl)))
            have hc_ := HCM.out w' HB.out
            refine value_ (w1 := w') (v := .int .i64 n) (by rfl) rfl ?_ ?_
            · go_simp
              (try simp only [i64_w])
              try rfl
              all_goals (try (unfold wrap64; omega))
            refine hK.out _ _ ⟨g53, g60, v54, v61, m6_, m13_, m16_, m17_, (by rw [ha.out]; exact putSel_upk 12 hb_ rfl rfl rfl), Q_HB, Q_HX9, Q_HP, Q_HW, Q_H53, fun h0_ _ => absurd ((hoff 13 (by kernel_rfl)).symm.trans h0_) (by decide), Q_HP2, fun h0_ => absurd ((hoff 14 (by kernel_rfl)).symm.trans h0_) (by decide), Q_X6_, fun h0_ => absurd ((hoff 13 (by kernel_rfl)).symm.trans h0_) (by decide), fun h0_ => absurd ((hoff 16 (by kernel_rfl)).symm.trans h0_) (by decide), fun h0_ => absurd ((hoff 17 (by kernel_rfl)).symm.trans h0_) (by decide)⟩
          refine steps_cons ?_ ?_
          · rintro b a w' ⟨g53, g60, v54, v61, m6_, m13_, m16_, m17_, ha, Q_HB, Q_HX9, Q_HP, Q_HW, Q_H53, Q_H60, Q_HP2, Q_HW2, Q_X6_, Q_X13_, Q_X16_, Q_X17_⟩ hb_ hon hoff
            refine ⟨_, rfl, fun K hK => ?_⟩
            have e59 : a.tmps[59]? = some (.int .i64 n) := by rw [ha]; exact putSel_on (e := (12, 59, .int .i64 n)) 12 rfl rfl (hon 12 (by kernel_rfl)) rfl
            replace ha := Aside0.mk ha
            have HB := Aside0.mk Q_HB
            have HX9 := Aside0.mk Q_HX9
            have HW := Aside0.mk (Q_HW (hoff 14 (by kernel_rfl)))
            refine value_ (w1 := w'.alloc (.cells #[.int .i64 n] 3)) (v := .slice (some ⟨w'.heap.size, 0, none⟩) 1 1) (by rfl) rfl ?_ ?_
            · go_simp
              try rfl
              all_goals (try (unfold wrap64; omega))
            have hb : Below w'.heap.size w' (w'.alloc (.cells #[.int .i64 n] 3)) := below_alloc (Below.refl _ _) _
            have hlit := lit_one .i64 3 w' w.heap.size HB.out.size n
            refine hK.out _ _ ⟨g53, w'.heap.size, v54, v61, m6_, (.slice (some ⟨w'.heap.size, 0, none⟩) 1 1), m16_, m17_, (by rw [ha.out]; exact putSel_upk 13 hb_ rfl rfl rfl), below_then HB.out HB.out.size hb, Kd.R_below HX9.out hb, fun h0_ => Kd.R_below (Q_HP h0_) hb, fun _ => Kd.R_below HW.out hb, fun h0_ h1_ => Kd.R_below (Q_H53 h0_ h1_) hb, fun _ _ => hlit, fun h0_ => Kd.R_below (Q_HP2 h0_) hb, fun h0_ => absurd ((hoff 14 (by kernel_rfl)).symm.trans h0_) (by decide), Q_X6_, fun _ => rfl, fun h0_ => absurd ((hoff 16 (by kernel_rfl)).symm.trans h0_) (by decide), fun h0_ => absurd ((hoff 17 (by kernel_rfl)).symm.trans h0_) (by decide)⟩
          refine steps_cons ?_ ?_
          · rintro b a w' ⟨g53, g60, v54, v61, m6_, m13_, m16_, m17_, ha, Q_HB, Q_HX9, Q_HP, Q_HW, Q_H53, Q_H60, Q_HP2, Q_HW2, Q_X6_, Q_X13_, Q_X16_, Q_X17_⟩ hb_ hon hoff
            refine ⟨_, rfl, fun K hK => ?_⟩
            have e55 : a.tmps[55]? = some (.slice A7 W.length c7) := by rw [ha]; exact putSel_on (e := (8, 55, .slice A7 W.length c7)) 8 rfl rfl (hon 8 (by kernel_rfl)) rfl
            have e60 : a.tmps[60]? = some (m13_) := by rw [ha]; exact putSel_on (e := (13, 60, m13_)) 13 rfl rfl (hon 13 (by kernel_rfl)) rfl
            rw [Q_X13_ (hon 13 (by kernel_rfl))] at e60
            replace ha := Aside0.mk ha
            have HB := Aside0.mk Q_HB
            have HX9 := Aside0.mk Q_HX9
            have HW := Aside0.mk (Q_HW hb_)
            have H60 := Aside0.mk (Q_H60 (hon 13 (by kernel_rfl)) hb_)
            have HP2 := Aside0.mk (Q_HP2 (hon 7 (by kernel_rfl)))
            refine Kd.R_append_rows_step (Kd.int .i64) (w0 := w) w.heap.size (by rfl) (.tmp 55) (.tmp 60) 33 3 (.int .i64 0) 8 rfl Try.underlying33 infoI rfl (by decide) (by omega) (.slice A7 W.length c7) W [n] (some ⟨g60, 0, none⟩) 1 1 (fun _ => True) (fun _ => False) (eval_of e55) (eval_of e60) HW.out (Kd.R_reads' H60.out).2.2 (fun _ _ h => h) (fun _ h => h.elim) (fun _ _ => trivial) HB.out HB.out.size hw8 ?_
            intro v1 w1 ho hb2 hg hat
            refine hK.out _ _ ⟨g53, g60, v54, v1, m6_, m13_, m16_, m17_, (by rw [ha.out]; exact putSel_upk 14 hb_ rfl rfl rfl), hb2, Kd.R_over HX9.out HW.out (by intro q hq; simp [Kd.int, Kd.scalar] at hq; omega) hg, fun h0_ => absurd ((hon 7 (by kernel_rfl)).symm.trans h0_) (by decide), fun h0_ => absurd ((up_self b 14).symm.trans h0_) (by decide), fun _ h1_ => absurd ((hon 7 (by kernel_rfl)).symm.trans h1_) (by decide), fun _ h1_ => absurd ((up_self b 14).symm.trans h1_) (by decide), fun _ => Kd.R_over HP2.out HW.out (by intro q hq; simp [Kd.int, Kd.scalar] at hq; omega) hg, fun _ => ho, Q_X6_, Q_X13_, fun h0_ => absurd ((hoff 16 (by kernel_rfl)).symm.trans h0_) (by decide), fun h0_ => absurd ((hoff 17 (by kernel_rfl)).symm.trans h0_) (by decide)⟩
          refine steps_cons ?_ ?_
          · rintro b a w' ⟨g53, g60, v54, v61, m6_, m13_, m16_, m17_, ha, Q_HB, Q_HX9, Q_HP, Q_HW, Q_H53, Q_H60, Q_HP2, Q_HW2, Q_X6_, Q_X13_, Q_X16_, Q_X17_⟩ hb_ hon hoff
            refine ⟨_, rfl, fun K hK => ?_⟩
            have e47 : a.tmps[47]? = some (.slice A9 X2.length c9) := by rw [ha]; exact putSel_on (e := (0, 47, .slice A9 X2.length c9)) 0 rfl rfl (hon 0 (by kernel_rfl)) rfl
            replace ha := Aside0.mk ha
            have HB := Aside0.mk Q_HB
            have HX9 := Aside0.mk Q_HX9
            have HP2 := Aside0.mk (Q_HP2 (hon 7 (by kernel_rfl)))
            have HW2 := Aside0.mk (Q_HW2 (hon 14 (by kernel_rfl)))
            refine value_ (w1 := w') (v := .slice A9 X2.length c9) (by rfl) rfl ?_ ?_
            · go_simp
              (try simp only [i64_w])
              try rfl
              all_goals (try (unfold wrap64; omega))
            refine hK.out _ _ ⟨g53, g60, v54, v61, m6_, m13_, m16_, m17_, (by rw [ha.out]; exact putSel_upk 15 hb_ rfl rfl rfl), Q_HB, Q_HX9, fun h0_ => absurd ((hon 7 (by kernel_rfl)).symm.trans h0_) (by decide), fun h0_ => absurd ((hon 14 (by kernel_rfl)).symm.trans h0_) (by decide), fun _ h1_ => absurd ((hon 7 (by kernel_rfl)).symm.trans h1_) (by decide), fun _ h1_ => absurd ((hon 14 (by kernel_rfl)).symm.trans h1_) (by decide), Q_HP2, Q_HW2, Q_X6_, Q_X13_, fun h0_ => absurd ((hoff 16 (by kernel_rfl)).symm.trans h0_) (by decide), fun h0_ => absurd ((hoff 17 (by kernel_rfl)).symm.trans h0_) (by decide)⟩
          refine steps_cons ?_ ?_
          · rintro b a w' ⟨g53, g60, v54, v61, m6_, m13_, m16_, m17_, ha, Q_HB, Q_HX9, Q_HP, Q_HW, Q_H53, Q_H60, Q_HP2, Q_HW2, Q_X6_, Q_X13_, Q_X16_, Q_X17_⟩ hb_ hon hoff
            refine ⟨_, rfl, fun K hK => ?_⟩
            have e54 : a.tmps[54]? = some (v54) := by rw [ha]; exact putSel_on (e := (7, 54, v54)) 7 rfl rfl (hon 7 (by kernel_rfl)) rfl
            replace ha := Aside0.mk ha
            have HB := Aside0.mk Q_HB
            have HX9 := Aside0.mk Q_HX9
            have HP2 := Aside0.mk (Q_HP2 (hon 7 (by kernel_rfl)))
            have HW2 := Aside0.mk (Q_HW2 (hon 14 (by kernel_rfl)))
            refine value_ (w1 := w') (v := v54) (by rfl) rfl ?_ ?_
            · go_simp
              (try simp only [i64_w])
              try rfl
              all_goals (try (unfold wrap64; omega))
            refine hK.out _ _ ⟨g53, g60, v54, v61, m6_, m13_, (v54), m17_, (by rw [ha.out]; exact putSel_upk 16 hb_ rfl rfl rfl), Q_HB, Q_HX9, fun h0_ => absurd ((hon 7 (by kernel_rfl)).symm.trans h0_) (by decide), fun h0_ => absurd ((hon 14 (by kernel_rfl)).symm.trans h0_) (by decide), fun _ h1_ => absurd ((hon 7 (by kernel_rfl)).symm.trans h1_) (by decide), fun _ h1_ => absurd ((hon 14 (by kernel_rfl)).symm.trans h1_) (by decide), Q_HP2, Q_HW2, Q_X6_, Q_X13_, fun _ => rfl, fun h0_ => absurd ((hoff 17 (by kernel_rfl)).symm.trans h0_) (by decide)⟩
          refine steps_cons ?_ ?_
          · rintro b a w' ⟨g53, g60, v54, v61, m6_, m13_, m16_, m17_, ha, Q_HB, Q_HX9, Q_HP, Q_HW, Q_H53, Q_H60, Q_HP2, Q_HW2, Q_X6_, Q_X13_, Q_X16_, Q_X17_⟩ hb_ hon hoff
            refine ⟨_, rfl, fun K hK => ?_⟩
            have e61 : a.tmps[61]? = some (v61) := by rw [ha]; exact putSel_on (e := (14, 61, v61)) 14 rfl rfl (hon 14 (by kernel_rfl)) rfl
            replace ha := Aside0.mk ha
            have HB := Aside0.mk Q_HB
            have HX9 := Aside0.mk Q_HX9
            have HP2 := Aside0.mk (Q_HP2 (hon 7 (by kernel_rfl)))
            have HW2 := Aside0.mk (Q_HW2 (hon 14 (by kernel_rfl)))
            refine value_ (w1 := w') (v := v61) (by rfl) rfl ?_ ?_
            · go_simp
              (try simp only [i64_w])
              try rfl
              all_goals (try (unfold wrap64; omega))
            refine hK.out _ _ ⟨g53, g60, v54, v61, m6_, m13_, m16_, (v61), (by rw [ha.out]; exact putSel_upk 17 hb_ rfl rfl rfl), Q_HB, Q_HX9, fun h0_ => absurd ((hon 7 (by kernel_rfl)).symm.trans h0_) (by decide), fun h0_ => absurd ((hon 14 (by kernel_rfl)).symm.trans h0_) (by decide), fun _ h1_ => absurd ((hon 7 (by kernel_rfl)).symm.trans h1_) (by decide), fun _ h1_ => absurd ((hon 14 (by kernel_rfl)).symm.trans h1_) (by decide), Q_HP2, Q_HW2, Q_X6_, Q_X13_, Q_X16_, fun _ => rfl⟩
          exact steps_nil
        rintro b a w8 hall ⟨g53, g60, v54, v61, m6_, m13_, m16_, m17_, ha, Q_HB, Q_HX9, Q_HP, Q_HW, Q_H53, Q_H60, Q_HP2, Q_HW2, Q_X6_, Q_X13_, Q_X16_, Q_X17_⟩
        clear HB HP HW HX9
        have hb0_ := hall 0 (by kernel_rfl)
        have hb1_ := hall 1 (by kernel_rfl)
        have hb2_ := hall 2 (by kernel_rfl)
        have hb3_ := hall 3 (by kernel_rfl)
        have hb4_ := hall 4 (by kernel_rfl)
        have hb5_ := hall 5 (by kernel_rfl)
        have hb6_ := hall 6 (by kernel_rfl)
        have hb7_ := hall 7 (by kernel_rfl)
        have hb8_ := hall 8 (by kernel_rfl)
        have hb9_ := hall 9 (by kernel_rfl)
        have hb10_ := hall 10 (by kernel_rfl)
        have hb11_ := hall 11 (by kernel_rfl)
        have hb12_ := hall 12 (by kernel_rfl)
        have hb13_ := hall 13 (by kernel_rfl)
        have hb14_ := hall 14 (by kernel_rfl)
        have hb15_ := hall 15 (by kernel_rfl)
        have hb16_ := hall 16 (by kernel_rfl)
        have hb17_ := hall 17 (by kernel_rfl)
        subst ha
        obtain rfl := Q_X6_ hb6_
        obtain rfl := Q_X13_ hb13_
        obtain rfl := Q_X16_ hb16_
        obtain rfl := Q_X17_ hb17_
        simp only [putSel, hb0_, hb1_, hb2_, hb3_, hb4_, hb5_, hb6_, hb7_, hb8_, hb9_, hb10_, hb11_, hb12_, hb13_, hb14_, hb15_, hb16_, hb17_, if_true, Act.put, List.setIfInBounds_toArray, List.set_cons_zero, List.set_cons_succ]
        have HB := Aside0.mk Q_HB
        clear Q_HB
        have HX9 := Aside0.mk Q_HX9
        clear Q_HX9
        clear Q_HP
        clear Q_HW
        clear Q_H53
        clear Q_H60
        have HP2 := Aside0.mk (Q_HP2 hb7_)
        clear Q_HP2
        have HW2 := Aside0.mk (Q_HW2 hb14_)
        clear Q_HW2
        clear hall hb0_ hb1_ hb2_ hb3_ hb4_ hb5_ hb6_ hb7_ hb8_ hb9_ hb10_ hb11_ hb12_ hb13_ hb14_ hb15_ hb16_ hb17_
        have hsn := HG.out.snoc HF1.out
        have HSN := Aside0.mk hsn
        clear hsn
        go_wp2_with fail
        go_roundg k
        case rel => exact ⟨i + 1, k, X2, P ++ [u], W ++ [n], rfl, by go_num, by omega, by omega, by omega, by rw [List.length_append, List.length_singleton]; omega, HX9, HP2, HW2, ⟨HSN.out.1⟩, ⟨by rw [HF2.out, HSN.out.2, ← HC.out]⟩, HB⟩
        case measure => omega
      · have hy : (Y == 0) = false := by simpa using hY0
        clear hY0 HFIT HPUT
        go_wp2_with fail
        go_roundg k
        case rel => exact ⟨i + 1, k, X, P, W, rfl, by go_num, by omega, by omega, by omega, by omega, HX, HP, HW, HG, HC, HB⟩
        case measure => omega
    · have HNGO := Aside0.mk hgo
      have HXL : Aside0 (X.length ≤ 140737488355328) := ⟨by rw [HC.out]; have := catB_len HG.out; omega⟩
      clear hgo
      by_cases h1 : i < l.length
      · by_cases h2 : i < m.length
        · have h3 : ¬ i < 64 := fun h => HNGO.out ⟨h1, h2, h⟩
          go_wp2_with fail
          obtain ⟨wz, hwz⟩ : ∃ wz, wz = wr := ⟨_, rfl⟩
          subst hwz
          refine (new_calls (Kd.R_reads' HX.out).2.2 (Kd.R_reads' HX.out).2.1 HXL.out).mono ?_
          rintro e w5 ⟨g, rfl, hR, hb⟩
          have HRD : Aside0 (Rdr w5 wz.heap.size (fun _ => True) g (catB (P.drop 0) (W.drop 0)) 0) := ⟨by rw [List.drop_zero, List.drop_zero, ← HC.out]; exact hR⟩
          have HBr := Aside0.mk hb
          have HPC := Aside0.mk (Kd.R_reads' HP.out).2.2
          have HWC := Aside0.mk (Kd.R_reads' HW.out).2.2
          have HLEN := Aside0.mk HG.out.len
          have hwl : W.length = P.length := HG.out.len
          clear hR hb HX HP HW HC HXL
          go_wp2_with fail
          go_loopg [68] P.length (fun gk v68 w' => ∃ (j kk : Nat), kk = gk ∧ v68 = .int .i64 (j : Int) ∧ j + kk = P.length ∧ Aside0 (Rdr w' wz.heap.size (fun _ => True) g (catB (P.drop j) (W.drop j)) 0) ∧ Aside0 (Below wz.heap.size wz w'))
          case atStart => exact ⟨0, P.length, rfl, rfl, by omega, HRD, HBr⟩
          case round =>
            clear HRD HBr
            obtain ⟨j, kk, rfl, rfl, hjk, HRD, HBr⟩ := hrel
            by_cases hj : j < P.length
            · obtain ⟨kk, rfl⟩ : ∃ k', kk = k' + 1 := ⟨kk - 1, by omega⟩
              have hjw : j < W.length := by omega
              obtain ⟨hf, hcat⟩ := HG.out.at j hj hjw
              obtain ⟨pd, hA, hcp⟩ := Kd.at_int (Kd.C_below HPC.out HBr.out) (j : Int) (by omega) (by omega)
              obtain ⟨wd, hW, hcw⟩ := Kd.at_int (Kd.C_below HWC.out HBr.out) (j : Int) (by omega) (by omega)
              subst hA
              subst hW
              rw [Int.toNat_natCast, rd_at P j hj] at hcp
              rw [Int.toNat_natCast, rd_at W j hjw] at hcw
              obtain ⟨u, hu⟩ : ∃ u, P[j] = u := ⟨_, rfl⟩
              obtain ⟨n, hn⟩ : ∃ n, W[j] = n := ⟨_, rfl⟩
              rw [hu] at hcp hf hcat
              rw [hn] at hcw hf hcat
              have ht := take_digits hf (catB (P.drop (j + 1)) (W.drop (j + 1)))
              rw [← hcat] at ht
              have hv : uintF (takeO (catB (P.drop j) (W.drop j)) 0 n (ub n)) = u := by
                rw [ht.1]
                exact uintF_digits hf.1 hf.2.1 hf.2.2.1 hf.2.2.2.1 hf.2.2.2.2
              have HT := Aside0.mk ht
              have HV := Aside0.mk hv
              clear hu hn hf hcat ht hv
              go_wp2_with fail
              refine (uint_at HRD.out n (v := u) (L := catB (P.drop (j + 1)) (W.drop (j + 1))) (E := 0) HV.out HT.out.2.1 HT.out.2.2).mono ?_
              rintro e w6 ⟨rfl, hR, hg⟩
              have HRD2 := Aside0.mk hR
              have HBr2 := Aside0.mk (HBr.out.grown hg HBr.out.size (by intro k hk; cases hk; exact HRD.out.1))
              clear hR hg HRD HBr HT HV
              go_wp2_with fail
              go_roundg kk
              case rel => exact ⟨j + 1, kk, rfl, by go_num, by omega, HRD2, HBr2⟩
              case measure => omega
            · have hje : j = P.length := by omega
              subst hje
              have HRE : Aside0 (Rdr _ wz.heap.size (fun _ => True) g [] 0) := ⟨by
                have := HRD.out
                rw [List.drop_length, show catB [] (W.drop P.length) = [] by cases W.drop P.length <;> rfl] at this
                exact this⟩
              clear HRD
              go_wp2_with fail
              refine (err_calls HRE.out).mono ?_
              rintro e w' ⟨rfl, rfl⟩
              go_wp2_with fail
              refine (left_calls HRE.out).mono ?_
              rintro e w' ⟨rfl, rfl⟩
              go_wp2_with fail
              go_ret
              exact ⟨rfl, below_then HB.out HB.out.size HBr.out⟩
        · go_wp2_with fail
          obtain ⟨wz, hwz⟩ : ∃ wz, wz = wr := ⟨_, rfl⟩
          subst hwz
          refine (new_calls (Kd.R_reads' HX.out).2.2 (Kd.R_reads' HX.out).2.1 HXL.out).mono ?_
          rintro e w5 ⟨g, rfl, hR, hb⟩
          have HRD : Aside0 (Rdr w5 wz.heap.size (fun _ => True) g (catB (P.drop 0) (W.drop 0)) 0) := ⟨by rw [List.drop_zero, List.drop_zero, ← HC.out]; exact hR⟩
          have HBr := Aside0.mk hb
          have HPC := Aside0.mk (Kd.R_reads' HP.out).2.2
          have HWC := Aside0.mk (Kd.R_reads' HW.out).2.2
          have HLEN := Aside0.mk HG.out.len
          have hwl : W.length = P.length := HG.out.len
          clear hR hb HX HP HW HC HXL
          go_wp2_with fail
          go_loopg [68] P.length (fun gk v68 w' => ∃ (j kk : Nat), kk = gk ∧ v68 = .int .i64 (j : Int) ∧ j + kk = P.length ∧ Aside0 (Rdr w' wz.heap.size (fun _ => True) g (catB (P.drop j) (W.drop j)) 0) ∧ Aside0 (Below wz.heap.size wz w'))
          case atStart => exact ⟨0, P.length, rfl, rfl, by omega, HRD, HBr⟩
          case round =>
            clear HRD HBr
            obtain ⟨j, kk, rfl, rfl, hjk, HRD, HBr⟩ := hrel
            by_cases hj : j < P.length
            · obtain ⟨kk, rfl⟩ : ∃ k', kk = k' + 1 := ⟨kk - 1, by omega⟩
              have hjw : j < W.length := by omega
              obtain ⟨hf, hcat⟩ := HG.out.at j hj hjw
              obtain ⟨pd, hA, hcp⟩ := Kd.at_int (Kd.C_below HPC.out HBr.out) (j : Int) (by omega) (by omega)
              obtain ⟨wd, hW, hcw⟩ := Kd.at_int (Kd.C_below HWC.out HBr.out) (j : Int) (by omega) (by omega)
              subst hA
              subst hW
              rw [Int.toNat_natCast, rd_at P j hj] at hcp
              rw [Int.toNat_natCast, rd_at W j hjw] at hcw
              obtain ⟨u, hu⟩ : ∃ u, P[j] = u := ⟨_, rfl⟩
              obtain ⟨n, hn⟩ : ∃ n, W[j] = n := ⟨_, rfl⟩
              rw [hu] at hcp hf hcat
              rw [hn] at hcw hf hcat
              have ht := take_digits hf (catB (P.drop (j + 1)) (W.drop (j + 1)))
              rw [← hcat] at ht
              have hv : uintF (takeO (catB (P.drop j) (W.drop j)) 0 n (ub n)) = u := by
                rw [ht.1]
                exact uintF_digits hf.1 hf.2.1 hf.2.2.1 hf.2.2.2.1 hf.2.2.2.2
              have HT := Aside0.mk ht
              have HV := Aside0.mk hv
              clear hu hn hf hcat ht hv
              go_wp2_with fail
              refine (uint_at HRD.out n (v := u) (L := catB (P.drop (j + 1)) (W.drop (j + 1))) (E := 0) HV.out HT.out.2.1 HT.out.2.2).mono ?_
              rintro e w6 ⟨rfl, hR, hg⟩
              have HRD2 := Aside0.mk hR
              have HBr2 := Aside0.mk (HBr.out.grown hg HBr.out.size (by intro k hk; cases hk; exact HRD.out.1))
              clear hR hg HRD HBr HT HV
              go_wp2_with fail
              go_roundg kk
              case rel => exact ⟨j + 1, kk, rfl, by go_num, by omega, HRD2, HBr2⟩
              case measure => omega
            · have hje : j = P.length := by omega
              subst hje
              have HRE : Aside0 (Rdr _ wz.heap.size (fun _ => True) g [] 0) := ⟨by
                have := HRD.out
                rw [List.drop_length, show catB [] (W.drop P.length) = [] by cases W.drop P.length <;> rfl] at this
                exact this⟩
              clear HRD
              go_wp2_with fail
              refine (err_calls HRE.out).mono ?_
              rintro e w' ⟨rfl, rfl⟩
              go_wp2_with fail
              refine (left_calls HRE.out).mono ?_
              rintro e w' ⟨rfl, rfl⟩
              go_wp2_with fail
              go_ret
              exact ⟨rfl, below_then HB.out HB.out.size HBr.out⟩
      · go_wp2_with fail
        obtain ⟨wz, hwz⟩ : ∃ wz, wz = wr := ⟨_, rfl⟩
        subst hwz
        refine (new_calls (Kd.R_reads' HX.out).2.2 (Kd.R_reads' HX.out).2.1 HXL.out).mono ?_
        rintro e w5 ⟨g, rfl, hR, hb⟩
        have HRD : Aside0 (Rdr w5 wz.heap.size (fun _ => True) g (catB (P.drop 0) (W.drop 0)) 0) := ⟨by rw [List.drop_zero, List.drop_zero, ← HC.out]; exact hR⟩
        have HBr := Aside0.mk hb
        have HPC := Aside0.mk (Kd.R_reads' HP.out).2.2
        have HWC := Aside0.mk (Kd.R_reads' HW.out).2.2
        have HLEN := Aside0.mk HG.out.len
        have hwl : W.length = P.length := HG.out.len
        clear hR hb HX HP HW HC HXL
        go_wp2_with fail
        go_loopg [68] P.length (fun gk v68 w' => ∃ (j kk : Nat), kk = gk ∧ v68 = .int .i64 (j : Int) ∧ j + kk = P.length ∧ Aside0 (Rdr w' wz.heap.size (fun _ => True) g (catB (P.drop j) (W.drop j)) 0) ∧ Aside0 (Below wz.heap.size wz w'))
        case atStart => exact ⟨0, P.length, rfl, rfl, by omega, HRD, HBr⟩
        case round =>
          clear HRD HBr
          obtain ⟨j, kk, rfl, rfl, hjk, HRD, HBr⟩ := hrel
          by_cases hj : j < P.length
          · obtain ⟨kk, rfl⟩ : ∃ k', kk = k' + 1 := ⟨kk - 1, by omega⟩
            have hjw : j < W.length := by omega
            obtain ⟨hf, hcat⟩ := HG.out.at j hj hjw
            obtain ⟨pd, hA, hcp⟩ := Kd.at_int (Kd.C_below HPC.out HBr.out) (j : Int) (by omega) (by omega)
            obtain ⟨wd, hW, hcw⟩ := Kd.at_int (Kd.C_below HWC.out HBr.out) (j : Int) (by omega) (by omega)
            subst hA
            subst hW
            rw [Int.toNat_natCast, rd_at P j hj] at hcp
            rw [Int.toNat_natCast, rd_at W j hjw] at hcw
            obtain ⟨u, hu⟩ : ∃ u, P[j] = u := ⟨_, rfl⟩
            obtain ⟨n, hn⟩ : ∃ n, W[j] = n := ⟨_, rfl⟩
            rw [hu] at hcp hf hcat
            rw [hn] at hcw hf hcat
            have ht := take_digits hf (catB (P.drop (j + 1)) (W.drop (j + 1)))
            rw [← hcat] at ht
            have hv : uintF (takeO (catB (P.drop j) (W.drop j)) 0 n (ub n)) = u := by
              rw [ht.1]
              exact uintF_digits hf.1 hf.2.1 hf.2.2.1 hf.2.2.2.1 hf.2.2.2.2
            have HT := Aside0.mk ht
            have HV := Aside0.mk hv
            clear hu hn hf hcat ht hv
            go_wp2_with fail
            refine (uint_at HRD.out n (v := u) (L := catB (P.drop (j + 1)) (W.drop (j + 1))) (E := 0) HV.out HT.out.2.1 HT.out.2.2).mono ?_
            rintro e w6 ⟨rfl, hR, hg⟩
            have HRD2 := Aside0.mk hR
            have HBr2 := Aside0.mk (HBr.out.grown hg HBr.out.size (by intro k hk; cases hk; exact HRD.out.1))
            clear hR hg HRD HBr HT HV
            go_wp2_with fail
            go_roundg kk
            case rel => exact ⟨j + 1, kk, rfl, by go_num, by omega, HRD2, HBr2⟩
            case measure => omega
          · have hje : j = P.length := by omega
            subst hje
            have HRE : Aside0 (Rdr _ wz.heap.size (fun _ => True) g [] 0) := ⟨by
              have := HRD.out
              rw [List.drop_length, show catB [] (W.drop P.length) = [] by cases W.drop P.length <;> rfl] at this
              exact this⟩
            clear HRD
            go_wp2_with fail
            refine (err_calls HRE.out).mono ?_
            rintro e w' ⟨rfl, rfl⟩
            go_wp2_with fail
            refine (left_calls HRE.out).mono ?_
            rintro e w' ⟨rfl, rfl⟩
            go_wp2_with fail
            go_ret
            exact ⟨rfl, below_then HB.out HB.out.size HBr.out⟩

theorem back_walk (A : Option Addr) (c : Nat) (l : List Int) (B : Option Addr) (d : Nat) (m : List Int) (w : World) (hC : Kd.C (Kd.int .u64) w A l.length l) (hc : l.length ≤ c) (hm : c ≤ maxLen) (hw : ∀ y ∈ l, (Lit.int .u64 y).wf = true) (hy : l.length * 8 ≤ 140737488351232)
    (hC' : Kd.C (Kd.int .i64) w B m.length m) (hc' : m.length ≤ d) (hm' : d ≤ maxLen) (hw' : ∀ y ∈ m, (Lit.int .i64 y).wf = true) (hy' : m.length * 8 ≤ 140737488351232) :
    Calls Try.prog 4 #[.slice A l.length c, .slice B m.length d] w fun e w' => e = .returned (.bool true) ∧ Below w.heap.size w w' := back_any hC hc hm hC' hc' hm' hw
end Go.Proofs.Ytkjfemkmooepnaa.Walk
