/- OctetPuts answers true. -/
import Derived.Test.YtkjfemkmooepnaaRefPut
import Derived.Test.YtkjfemkmooepnaaGivAlive01
import Derived.Deep.RegionWith
namespace Go.Proofs.Ytkjfemkmooepnaa.Walk
open Go.RowKit Go.Proofs.YtkjfemkmooepnaaW.PrintWords Go.Proofs.YtkjfemkmooepnaaW.PrintLast Go.Proofs.YtkjfemkmooepnaaW.PrintMore Go.Proofs.Ytkjfemkmooepnaa.Oct Go.Proofs.Ytkjfemkmooepnaa.Q Go.Proofs.Ytkjfemkmooepnaa.Ref Go.Proofs.Ytkjfemkmooepnaa.Giv
set_option linter.unusedVariables false
set_option linter.unusedSimpArgs false

def puts.T7 : Bool × List (List Nat × List Nat) := (true, [([], []), ([0], [0]), ([], []), ([2], [2]), ([1, 3], [1, 3]), ([4], [4]), ([5], [5]), ([5], [5]), ([6, 7, 5], [5, 6, 7]), ([5, 8], [5, 8]), ([9, 5], [9]), ([10], [10]), ([11, 10, 10], [10, 11]), ([12, 10], [10, 12]), ([10], [10]), ([14, 12, 10], [10, 14]), ([15, 10], [10, 15]), ([13, 16, 10], [10, 13, 16]), ([10, 17], [10, 17]), ([18, 15, 0, 1, 2, 3, 4, 5, 6, 7, 8, 9, 10, 11, 12, 13, 14, 15, 16, 17, 18], [18])])
def puts.B7 : List Nat := [0, 1, 0, 4, 15, 31, 63, 63, 255, 511, 1023, 2047, 4095, 8191, 2047, 24575, 57343, 131071, 262143, 524287]
theorem puts.tab7 : rtab .any (opsOf Try.f3 7) = puts.T7 := by kernel_rfl
theorem puts.bits7 : waitsOk puts.T7.2 puts.B7 = true := by kernel_rfl
set_option maxHeartbeats 2000000 in
theorem puts_small {w : World} {A : Option Addr} {c : Nat} {l : List Int} (hr : Kd.C (Kd.int .u8) w A l.length l) (hc : l.length ≤ c) (hl : l.length ≤ 4096) (n u : Int) (h0 : 0 ≤ u) (hu : u < 18446744073709551616) :
    Calls Try.prog 3 #[.slice A l.length c, .int .i64 n, .int .u64 u] w fun e w' => e = .returned (.bool true) ∧ Below w.heap.size w w' := by
  obtain ⟨k1, hk1⟩ := (refPut_ev l hl n u h0 hu).rounds
  obtain ⟨k2, hk2⟩ := (refPad_ev l hl).rounds
  have HR := Aside0.mk hr
  have HK1 := Aside0.mk hk1
  have HK2 := Aside0.mk hk2
  clear hr hk1 hk2 h0 hu
  go_enter Try.func3, Try.ntmps3
  go_wp2_with fail
  refine (viaductlaw01_alive.calls true _ rfl).mono ?_
  rintro e w1 ⟨rfl, hb⟩
  have HB1 := Aside0.mk hb
  clear hb
  go_wp2_with fail
  refine (put_any (Kd.C_below HR.out HB1.out) hc (by omega) n u).mono ?_
  rintro e w2 ⟨v2, rfl, hv, hb⟩
  have HV2 := Aside0.mk hv
  have HB2 := Aside0.mk (below_then HB1.out HB1.out.size hb)
  clear hv hb HB1
  obtain ⟨A2, c2, e2⟩ := Kd.R_slice HV2.out
  subst e2
  go_wp2_with fail
  refine (viaductref01_Put.calls k1 A c l n u _ _ _ (Kd.C_below HR.out HB2.out) hc HK1.out).mono ?_
  rintro e w3 ⟨v3, rfl, hv, hb⟩
  have HV3 := Aside0.mk hv
  have HV2' := Aside0.mk (Kd.R_below HV2.out hb)
  have HB3 := Aside0.mk (below_then HB2.out HB2.out.size hb)
  clear hv hb HB2 HV2
  obtain ⟨A3, c3, e3⟩ := Kd.R_slice HV3.out
  subst e3
  generalize putB l n u = X at *
  generalize putE n u = Y at *
  go_wp2_with fail
  have HB := Aside0.mk (below_drew HB3.out)
  have HC2 := Aside0.mk (Kd.C_drew (Kd.R_reads' HV2'.out).2.2)
  have HC3 := Aside0.mk (Kd.C_drew (Kd.R_reads' HV3.out).2.2)
  clear HV2' HV3 HB3 HK1
  refine start_ (n := 20) (S := fun w' => True) (ds := []) #[false, false, false, false, false, false, false, false, false, false, false, false, false, false, false, false, false, false, false, false] (by kernel_rfl) rfl rfl trivial (fun hHeld => ?_)
  refine with_tabW puts.tab7 puts.bits7 (fun HT_ HW_ => ?_)
  refine inv_at [0, 1, 2, 3, 4, 5, 6, 7, 8, 9, 10, 11, 12, 13, 14, 15, 16, 17, 18, 19] (fun a0_ b a w' => ∃ (A4 : Option Addr) (c4 : Nat) (A5 : Option Addr) (c5 : Nat) (m12_ : Value) (m15_ : Value), a = putSel a0_ b [(0, 30, .slice A2 X.length c2), (1, 31, .string (strOfNums X)), (2, 32, .slice A3 X.length c3), (3, 33, .string (strOfNums X)), (4, 34, .bool true), (5, 35, .bool true), (6, 36, .int .i64 Y), (7, 37, .int .i64 Y), (8, 38, .bool true), (9, 39, .bool true), (10, 40, .bool true), (11, 41, .slice A l.length c), (12, 42, m12_), (13, 43, .string (strOfNums (padF l))), (14, 44, .slice A l.length c), (15, 45, m15_), (16, 46, .string (strOfNums (padF l))), (17, 47, .bool true), (18, 48, .bool true), (19, 6, .bool true)] ∧ (Below w.heap.size w w') ∧ (Kd.C (Kd.int .u8) w' A2 X.length X) ∧ (Kd.C (Kd.int .u8) w' A3 X.length X) ∧ (b 12 = true → Kd.C (Kd.int .u8) w' A4 (padF l).length (padF l)) ∧ (b 15 = true → Kd.C (Kd.int .u8) w' A5 (padF l).length (padF l)) ∧ (b 12 = true → (m12_ : Value) = .slice A4 (padF l).length c4) ∧ (b 15 = true → (m15_ : Value) = .slice A5 (padF l).length c5)) HT_.out HW_.out (by kernel_rfl) (by kernel_rfl) ?_ ?_ ?_
  · exact ⟨none, 0, none, 0, .bool false, .bool false, by simp only [putSel, Bool.false_eq_true, if_false], HB.out, HC2.out, HC3.out, fun h_ => absurd h_ (by decide), fun h_ => absurd h_ (by decide), fun h_ => absurd h_ (by decide), fun h_ => absurd h_ (by decide)⟩
  · skip
    clear HB HC2 HC3
    refine steps_cons ?_ ?_
    · rintro b a w' ⟨A4, c4, A5, c5, m12_, m15_, ha, Q_HB, Q_HC2, Q_HC3, Q_HC4, Q_HC5, Q_X12_, Q_X15_⟩ hb_ hon hoff
      refine ⟨_, rfl, fun K hK => ?_⟩
      have e7 : a.tmps[7]? = some (.slice A2 X.length c2) := by rw [ha]; exact (putSel_off rfl).trans rfl
      replace ha := Aside0.mk ha
      have HB := Aside0.mk Q_HB
      have HC2 := Aside0.mk Q_HC2
      have HC3 := Aside0.mk Q_HC3
      refine value_ (w1 := w') (v := .slice A2 X.length c2) (by rfl) rfl ?_ ?_
      · go_simp
        (try simp only [i64_w])
        try rfl
      refine hK.out _ _ ⟨A4, c4, A5, c5, m12_, m15_, (by rw [ha.out]; exact putSel_upk 0 hb_ rfl rfl rfl), Q_HB, Q_HC2, Q_HC3, fun h0_ => absurd ((hoff 12 (by kernel_rfl)).symm.trans h0_) (by decide), fun h0_ => absurd ((hoff 15 (by kernel_rfl)).symm.trans h0_) (by decide), fun h0_ => absurd ((hoff 12 (by kernel_rfl)).symm.trans h0_) (by decide), fun h0_ => absurd ((hoff 15 (by kernel_rfl)).symm.trans h0_) (by decide)⟩
    refine steps_cons ?_ ?_
    · rintro b a w' ⟨A4, c4, A5, c5, m12_, m15_, ha, Q_HB, Q_HC2, Q_HC3, Q_HC4, Q_HC5, Q_X12_, Q_X15_⟩ hb_ hon hoff
      refine ⟨_, rfl, fun K hK => ?_⟩
      have e30 : a.tmps[30]? = some (.slice A2 X.length c2) := by rw [ha]; exact putSel_on (e := (0, 30, .slice A2 X.length c2)) 0 rfl rfl (hon 0 (by kernel_rfl)) rfl
      replace ha := Aside0.mk ha
      have HB := Aside0.mk Q_HB
      have HC2 := Aside0.mk Q_HC2
      have HC3 := Aside0.mk Q_HC3
      have hcv_ := conv (c := c2) HC2.out
      refine value_ (w1 := w') (v := .string (strOfNums X)) (by rfl) rfl ?_ ?_
      · go_simp
        (try simp only [i64_w])
        try rfl
      refine hK.out _ _ ⟨A4, c4, A5, c5, m12_, m15_, (by rw [ha.out]; exact putSel_upk 1 hb_ rfl rfl rfl), Q_HB, Q_HC2, Q_HC3, fun h0_ => absurd ((hoff 12 (by kernel_rfl)).symm.trans h0_) (by decide), fun h0_ => absurd ((hoff 15 (by kernel_rfl)).symm.trans h0_) (by decide), fun h0_ => absurd ((hoff 12 (by kernel_rfl)).symm.trans h0_) (by decide), fun h0_ => absurd ((hoff 15 (by kernel_rfl)).symm.trans h0_) (by decide)⟩
    refine steps_cons ?_ ?_
    · rintro b a w' ⟨A4, c4, A5, c5, m12_, m15_, ha, Q_HB, Q_HC2, Q_HC3, Q_HC4, Q_HC5, Q_X12_, Q_X15_⟩ hb_ hon hoff
      refine ⟨_, rfl, fun K hK => ?_⟩
      have e9 : a.tmps[9]? = some (.slice A3 X.length c3) := by rw [ha]; exact (putSel_off rfl).trans rfl
      replace ha := Aside0.mk ha
      have HB := Aside0.mk Q_HB
      have HC2 := Aside0.mk Q_HC2
      have HC3 := Aside0.mk Q_HC3
      refine value_ (w1 := w') (v := .slice A3 X.length c3) (by rfl) rfl ?_ ?_
      · go_simp
        (try simp only [i64_w])
        try rfl
      refine hK.out _ _ ⟨A4, c4, A5, c5, m12_, m15_, (by rw [ha.out]; exact putSel_upk 2 hb_ rfl rfl rfl), Q_HB, Q_HC2, Q_HC3, fun h0_ => absurd ((hoff 12 (by kernel_rfl)).symm.trans h0_) (by decide), fun h0_ => absurd ((hoff 15 (by kernel_rfl)).symm.trans h0_) (by decide), fun h0_ => absurd ((hoff 12 (by kernel_rfl)).symm.trans h0_) (by decide), fun h0_ => absurd ((hoff 15 (by kernel_rfl)).symm.trans h0_) (by decide)⟩
    refine steps_cons ?_ ?_
    · rintro b a w' ⟨A4, c4, A5, c5, m12_, m15_, ha, Q_HB, Q_HC2, Q_HC3, Q_HC4, Q_HC5, Q_X12_, Q_X15_⟩ hb_ hon hoff
      refine ⟨_, rfl, fun K hK => ?_⟩
      have e32 : a.tmps[32]? = some (.slice A3 X.length c3) := by rw [ha]; exact putSel_on (e := (2, 32, .slice A3 X.length c3)) 2 rfl rfl (hon 2 (by kernel_rfl)) rfl
      replace ha := Aside0.mk ha
      have HB := Aside0.mk Q_HB
      have HC2 := Aside0.mk Q_HC2
      have HC3 := Aside0.mk Q_HC3
      have hcv_ := conv (c := c3) HC3.out
      refine value_ (w1 := w') (v := .string (strOfNums X)) (by rfl) rfl ?_ ?_
      · go_simp
        (try simp only [i64_w])
        try rfl
      refine hK.out _ _ ⟨A4, c4, A5, c5, m12_, m15_, (by rw [ha.out]; exact putSel_upk 3 hb_ rfl rfl rfl), Q_HB, Q_HC2, Q_HC3, fun h0_ => absurd ((hoff 12 (by kernel_rfl)).symm.trans h0_) (by decide), fun h0_ => absurd ((hoff 15 (by kernel_rfl)).symm.trans h0_) (by decide), fun h0_ => absurd ((hoff 12 (by kernel_rfl)).symm.trans h0_) (by decide), fun h0_ => absurd ((hoff 15 (by kernel_rfl)).symm.trans h0_) (by decide)⟩
    refine steps_cons ?_ ?_
    · rintro b a w' ⟨A4, c4, A5, c5, m12_, m15_, ha, Q_HB, Q_HC2, Q_HC3, Q_HC4, Q_HC5, Q_X12_, Q_X15_⟩ hb_ hon hoff
      refine ⟨_, rfl, fun K hK => ?_⟩
      have e31 : a.tmps[31]? = some (.string (strOfNums X)) := by rw [ha]; exact putSel_on (e := (1, 31, .string (strOfNums X))) 1 rfl rfl (hon 1 (by kernel_rfl)) rfl
      have e33 : a.tmps[33]? = some (.string (strOfNums X)) := by rw [ha]; exact putSel_on (e := (3, 33, .string (strOfNums X))) 3 rfl rfl (hon 3 (by kernel_rfl)) rfl
      replace ha := Aside0.mk ha
      have HB := Aside0.mk Q_HB
      have HC2 := Aside0.mk Q_HC2
      have HC3 := Aside0.mk Q_HC3
      refine value_ (w1 := w') (v := .bool true) (by rfl) rfl ?_ ?_
      · go_simp
        (try simp only [i64_w])
        try rfl
      refine hK.out _ _ ⟨A4, c4, A5, c5, m12_, m15_, (by rw [ha.out]; exact putSel_upk 4 hb_ rfl rfl rfl), Q_HB, Q_HC2, Q_HC3, fun h0_ => absurd ((hoff 12 (by kernel_rfl)).symm.trans h0_) (by decide), fun h0_ => absurd ((hoff 15 (by kernel_rfl)).symm.trans h0_) (by decide), fun h0_ => absurd ((hoff 12 (by kernel_rfl)).symm.trans h0_) (by decide), fun h0_ => absurd ((hoff 15 (by kernel_rfl)).symm.trans h0_) (by decide)⟩
    refine steps_cons ?_ ?_
    · rintro b a w' ⟨A4, c4, A5, c5, m12_, m15_, ha, Q_HB, Q_HC2, Q_HC3, Q_HC4, Q_HC5, Q_X12_, Q_X15_⟩ hb_ hon hoff
      refine ⟨_, rfl, fun K hK => ?_⟩
      have e34 : a.tmps[34]? = some (.bool true) := by rw [ha]; exact putSel_on (e := (4, 34, .bool true)) 4 rfl rfl (hon 4 (by kernel_rfl)) rfl
      replace ha := Aside0.mk ha
      have HB := Aside0.mk Q_HB
      have HC2 := Aside0.mk Q_HC2
      have HC3 := Aside0.mk Q_HC3
      refine value_ (w1 := w') (v := .bool true) (by rfl) rfl ?_ ?_
      · go_simp
        (try simp only [i64_w])
        try rfl
      refine hK.out _ _ ⟨A4, c4, A5, c5, m12_, m15_, (by rw [ha.out]; exact putSel_upk 5 hb_ rfl rfl rfl), Q_HB, Q_HC2, Q_HC3, fun h0_ => absurd ((hoff 12 (by kernel_rfl)).symm.trans h0_) (by decide), fun h0_ => absurd ((hoff 15 (by kernel_rfl)).symm.trans h0_) (by decide), fun h0_ => absurd ((hoff 12 (by kernel_rfl)).symm.trans h0_) (by decide), fun h0_ => absurd ((hoff 15 (by kernel_rfl)).symm.trans h0_) (by decide)⟩
    refine steps_cons ?_ ?_
    · rintro b a w' ⟨A4, c4, A5, c5, m12_, m15_, ha, Q_HB, Q_HC2, Q_HC3, Q_HC4, Q_HC5, Q_X12_, Q_X15_⟩ hb_ hon hoff
      refine ⟨_, rfl, fun K hK => ?_⟩
      have e8 : a.tmps[8]? = some (.int .i64 Y) := by rw [ha]; exact (putSel_off rfl).trans rfl
      have e35 : a.tmps[35]? = some (.bool true) := by rw [ha]; exact putSel_on (e := (5, 35, .bool true)) 5 rfl rfl (hon 5 (by kernel_rfl)) rfl
      replace ha := Aside0.mk ha
      have HB := Aside0.mk Q_HB
      have HC2 := Aside0.mk Q_HC2
      have HC3 := Aside0.mk Q_HC3
      refine value_ (w1 := w') (v := .int .i64 Y) (wanted_on rfl rfl rfl (e35.trans (by first | rfl | (simp [*]; done)))) rfl ?_ ?_
      · go_simp
        (try simp only [i64_w])
        try rfl
      refine hK.out _ _ ⟨A4, c4, A5, c5, m12_, m15_, (by rw [ha.out]; exact putSel_upk 6 hb_ rfl rfl rfl), Q_HB, Q_HC2, Q_HC3, fun h0_ => absurd ((hoff 12 (by kernel_rfl)).symm.trans h0_) (by decide), fun h0_ => absurd ((hoff 15 (by kernel_rfl)).symm.trans h0_) (by decide), fun h0_ => absurd ((hoff 12 (by kernel_rfl)).symm.trans h0_) (by decide), fun h0_ => absurd ((hoff 15 (by kernel_rfl)).symm.trans h0_) (by decide)⟩
    refine steps_cons ?_ ?_
    · rintro b a w' ⟨A4, c4, A5, c5, m12_, m15_, ha, Q_HB, Q_HC2, Q_HC3, Q_HC4, Q_HC5, Q_X12_, Q_X15_⟩ hb_ hon hoff
      refine ⟨_, rfl, fun K hK => ?_⟩
      have e10 : a.tmps[10]? = some (.int .i64 Y) := by rw [ha]; exact (putSel_off rfl).trans rfl
      have e35 : a.tmps[35]? = some (.bool true) := by rw [ha]; exact putSel_on (e := (5, 35, .bool true)) 5 rfl rfl (hon 5 (by kernel_rfl)) rfl
      replace ha := Aside0.mk ha
      have HB := Aside0.mk Q_HB
      have HC2 := Aside0.mk Q_HC2
      have HC3 := Aside0.mk Q_HC3
      refine value_ (w1 := w') (v := .int .i64 Y) (wanted_on rfl rfl rfl (e35.trans (by first | rfl | (simp [*]; done)))) rfl ?_ ?_
      · go_simp
        (try simp only [i64_w])
        try rfl
      refine hK.out _ _ ⟨A4, c4, A5, c5, m12_, m15_, (by rw [ha.out]; exact putSel_upk 7 hb_ rfl rfl rfl), Q_HB, Q_HC2, Q_HC3, fun h0_ => absurd ((hoff 12 (by kernel_rfl)).symm.trans h0_) (by decide), fun h0_ => absurd ((hoff 15 (by kernel_rfl)).symm.trans h0_) (by decide), fun h0_ => absurd ((hoff 12 (by kernel_rfl)).symm.trans h0_) (by decide), fun h0_ => absurd ((hoff 15 (by kernel_rfl)).symm.trans h0_) (by decide)⟩
    refine steps_cons ?_ ?_
    · rintro b a w' ⟨A4, c4, A5, c5, m12_, m15_, ha, Q_HB, Q_HC2, Q_HC3, Q_HC4, Q_HC5, Q_X12_, Q_X15_⟩ hb_ hon hoff
      refine ⟨_, rfl, fun K hK => ?_⟩
      have e36 : a.tmps[36]? = some (.int .i64 Y) := by rw [ha]; exact putSel_on (e := (6, 36, .int .i64 Y)) 6 rfl rfl (hon 6 (by kernel_rfl)) rfl
      have e37 : a.tmps[37]? = some (.int .i64 Y) := by rw [ha]; exact putSel_on (e := (7, 37, .int .i64 Y)) 7 rfl rfl (hon 7 (by kernel_rfl)) rfl
      have e35 : a.tmps[35]? = some (.bool true) := by rw [ha]; exact putSel_on (e := (5, 35, .bool true)) 5 rfl rfl (hon 5 (by kernel_rfl)) rfl
      replace ha := Aside0.mk ha
      have HB := Aside0.mk Q_HB
      have HC2 := Aside0.mk Q_HC2
      have HC3 := Aside0.mk Q_HC3
      refine value_ (w1 := w') (v := .bool true) (wanted_on rfl rfl rfl (e35.trans (by first | rfl | (simp [*]; done)))) rfl ?_ ?_
      · go_simp
        (try simp only [i64_w])
        try rfl
      refine hK.out _ _ ⟨A4, c4, A5, c5, m12_, m15_, (by rw [ha.out]; exact putSel_upk 8 hb_ rfl rfl rfl), Q_HB, Q_HC2, Q_HC3, fun h0_ => absurd ((hoff 12 (by kernel_rfl)).symm.trans h0_) (by decide), fun h0_ => absurd ((hoff 15 (by kernel_rfl)).symm.trans h0_) (by decide), fun h0_ => absurd ((hoff 12 (by kernel_rfl)).symm.trans h0_) (by decide), fun h0_ => absurd ((hoff 15 (by kernel_rfl)).symm.trans h0_) (by decide)⟩
    refine steps_cons ?_ ?_
    · rintro b a w' ⟨A4, c4, A5, c5, m12_, m15_, ha, Q_HB, Q_HC2, Q_HC3, Q_HC4, Q_HC5, Q_X12_, Q_X15_⟩ hb_ hon hoff
      refine ⟨_, rfl, fun K hK => ?_⟩
      have e35 : a.tmps[35]? = some (.bool true) := by rw [ha]; exact putSel_on (e := (5, 35, .bool true)) 5 rfl rfl (hon 5 (by kernel_rfl)) rfl
      have e38 : a.tmps[38]? = some (.bool true) := by rw [ha]; exact putSel_on (e := (8, 38, .bool true)) 8 rfl rfl (hon 8 (by kernel_rfl)) rfl
      replace ha := Aside0.mk ha
      have HB := Aside0.mk Q_HB
      have HC2 := Aside0.mk Q_HC2
      have HC3 := Aside0.mk Q_HC3
      refine value_ (w1 := w') (v := .bool true) (by rfl) rfl ?_ ?_
      · go_simp
        (try simp only [i64_w])
        try rfl
      refine hK.out _ _ ⟨A4, c4, A5, c5, m12_, m15_, (by rw [ha.out]; exact putSel_upk 9 hb_ rfl rfl rfl), Q_HB, Q_HC2, Q_HC3, fun h0_ => absurd ((hoff 12 (by kernel_rfl)).symm.trans h0_) (by decide), fun h0_ => absurd ((hoff 15 (by kernel_rfl)).symm.trans h0_) (by decide), fun h0_ => absurd ((hoff 12 (by kernel_rfl)).symm.trans h0_) (by decide), fun h0_ => absurd ((hoff 15 (by kernel_rfl)).symm.trans h0_) (by decide)⟩
    refine steps_cons ?_ ?_
    · rintro b a w' ⟨A4, c4, A5, c5, m12_, m15_, ha, Q_HB, Q_HC2, Q_HC3, Q_HC4, Q_HC5, Q_X12_, Q_X15_⟩ hb_ hon hoff
      refine ⟨_, rfl, fun K hK => ?_⟩
      have e39 : a.tmps[39]? = some (.bool true) := by rw [ha]; exact putSel_on (e := (9, 39, .bool true)) 9 rfl rfl (hon 9 (by kernel_rfl)) rfl
      replace ha := Aside0.mk ha
      have HB := Aside0.mk Q_HB
      have HC2 := Aside0.mk Q_HC2
      have HC3 := Aside0.mk Q_HC3
      refine value_ (w1 := w') (v := .bool true) (by rfl) rfl ?_ ?_
      · go_simp
        (try simp only [i64_w])
        try rfl
      refine hK.out _ _ ⟨A4, c4, A5, c5, m12_, m15_, (by rw [ha.out]; exact putSel_upk 10 hb_ rfl rfl rfl), Q_HB, Q_HC2, Q_HC3, fun h0_ => absurd ((hoff 12 (by kernel_rfl)).symm.trans h0_) (by decide), fun h0_ => absurd ((hoff 15 (by kernel_rfl)).symm.trans h0_) (by decide), fun h0_ => absurd ((hoff 12 (by kernel_rfl)).symm.trans h0_) (by decide), fun h0_ => absurd ((hoff 15 (by kernel_rfl)).symm.trans h0_) (by decide)⟩
    refine steps_cons ?_ ?_
    · rintro b a w' ⟨A4, c4, A5, c5, m12_, m15_, ha, Q_HB, Q_HC2, Q_HC3, Q_HC4, Q_HC5, Q_X12_, Q_X15_⟩ hb_ hon hoff
      refine ⟨_, rfl, fun K hK => ?_⟩
      have e0 : a.tmps[0]? = some (.slice A l.length c) := by rw [ha]; exact (putSel_off rfl).trans rfl
      have e40 : a.tmps[40]? = some (.bool true) := by rw [ha]; exact putSel_on (e := (10, 40, .bool true)) 10 rfl rfl (hon 10 (by kernel_rfl)) rfl
      replace ha := Aside0.mk ha
      have HB := Aside0.mk Q_HB
      have HC2 := Aside0.mk Q_HC2
      have HC3 := Aside0.mk Q_HC3
      refine value_ (w1 := w') (v := .slice A l.length c) (wanted_on rfl rfl rfl (e40.trans (by first | rfl | (simp [*]; done)))) rfl ?_ ?_
      · go_simp
        (try simp only [i64_w])
        try rfl
      refine hK.out _ _ ⟨A4, c4, A5, c5, m12_, m15_, (by rw [ha.out]; exact putSel_upk 11 hb_ rfl rfl rfl), Q_HB, Q_HC2, Q_HC3, fun h0_ => absurd ((hoff 12 (by kernel_rfl)).symm.trans h0_) (by decide), fun h0_ => absurd ((hoff 15 (by kernel_rfl)).symm.trans h0_) (by decide), fun h0_ => absurd ((hoff 12 (by kernel_rfl)).symm.trans h0_) (by decide), fun h0_ => absurd ((hoff 15 (by kernel_rfl)).symm.trans h0_) (by decide)⟩
    refine steps_cons ?_ ?_
    · rintro b a w' ⟨A4, c4, A5, c5, m12_, m15_, ha, Q_HB, Q_HC2, Q_HC3, Q_HC4, Q_HC5, Q_X12_, Q_X15_⟩ hb_ hon hoff
      refine ⟨_, rfl, fun K hK => ?_⟩
      have e41 : a.tmps[41]? = some (.slice A l.length c) := by rw [ha]; exact putSel_on (e := (11, 41, .slice A l.length c)) 11 rfl rfl (hon 11 (by kernel_rfl)) rfl
      have e40 : a.tmps[40]? = some (.bool true) := by rw [ha]; exact putSel_on (e := (10, 40, .bool true)) 10 rfl rfl (hon 10 (by kernel_rfl)) rfl
      replace ha := Aside0.mk ha
      have HB := Aside0.mk Q_HB
      have HC2 := Aside0.mk Q_HC2
      have HC3 := Aside0.mk Q_HC3
      refine goes_ Try.func12 (by kernel_rfl) rfl #[.slice A l.length c] (wanted_on rfl rfl rfl (e40.trans (by first | rfl | (simp [*]; done)))) rfl rfl (by first | (simp only [List.map_toArray, List.map_cons, List.map_nil, Act.eval, Array.getD_eq_getD_getElem?, Option.getD_some, e41, e40]; done) | (simp only [List.map_toArray, List.map_cons, List.map_nil, Act.eval, Array.getD_eq_getD_getElem?, Option.getD_some, e41, e40]; rfl)) ?_
      refine (pad_calls (Kd.C_below HR.out HB.out) hc (by omega)).mono ?_
      rintro e w2_ ⟨v_, rfl, hv, hb⟩
      obtain ⟨A4_, c4_, e4_⟩ := Kd.R_slice hv
      subst e4_
      refine ⟨_, rfl, ?_⟩
      refine hK.out _ _ ⟨A4_, c4_, A5, c5, (.slice A4_ (padF l).length c4_), m15_, (by rw [ha.out]; exact putSel_upk 12 hb_ rfl rfl rfl), below_then HB.out HB.out.size hb, Kd.C_below HC2.out hb, Kd.C_below HC3.out hb, fun _ => (Kd.R_reads' hv).2.2, fun h0_ => absurd ((hoff 15 (by kernel_rfl)).symm.trans h0_) (by decide), fun _ => rfl, fun h0_ => absurd ((hoff 15 (by kernel_rfl)).symm.trans h0_) (by decide)⟩
    refine steps_cons ?_ ?_
    · rintro b a w' ⟨A4, c4, A5, c5, m12_, m15_, ha, Q_HB, Q_HC2, Q_HC3, Q_HC4, Q_HC5, Q_X12_, Q_X15_⟩ hb_ hon hoff
      refine ⟨_, rfl, fun K hK => ?_⟩
      have e42 : a.tmps[42]? = some (m12_) := by rw [ha]; exact putSel_on (e := (12, 42, m12_)) 12 rfl rfl (hon 12 (by kernel_rfl)) rfl
      rw [Q_X12_ (hon 12 (by kernel_rfl))] at e42
      have e40 : a.tmps[40]? = some (.bool true) := by rw [ha]; exact putSel_on (e := (10, 40, .bool true)) 10 rfl rfl (hon 10 (by kernel_rfl)) rfl
      replace ha := Aside0.mk ha
      have HB := Aside0.mk Q_HB
      have HC2 := Aside0.mk Q_HC2
      have HC3 := Aside0.mk Q_HC3
      have HC4 := Aside0.mk (Q_HC4 (hon 12 (by kernel_rfl)))
      have hcv_ := conv (c := c4) HC4.out
      refine value_ (w1 := w') (v := .string (strOfNums (padF l))) (wanted_on rfl rfl rfl (e40.trans (by first | rfl | (simp [*]; done)))) rfl ?_ ?_
      · go_simp
        (try simp only [i64_w])
        try rfl
      refine hK.out _ _ ⟨A4, c4, A5, c5, m12_, m15_, (by rw [ha.out]; exact putSel_upk 13 hb_ rfl rfl rfl), Q_HB, Q_HC2, Q_HC3, Q_HC4, Q_HC5, Q_X12_, Q_X15_⟩
    refine steps_cons ?_ ?_
    · rintro b a w' ⟨A4, c4, A5, c5, m12_, m15_, ha, Q_HB, Q_HC2, Q_HC3, Q_HC4, Q_HC5, Q_X12_, Q_X15_⟩ hb_ hon hoff
      refine ⟨_, rfl, fun K hK => ?_⟩
      have e0 : a.tmps[0]? = some (.slice A l.length c) := by rw [ha]; exact (putSel_off rfl).trans rfl
      have e40 : a.tmps[40]? = some (.bool true) := by rw [ha]; exact putSel_on (e := (10, 40, .bool true)) 10 rfl rfl (hon 10 (by kernel_rfl)) rfl
      replace ha := Aside0.mk ha
      have HB := Aside0.mk Q_HB
      have HC2 := Aside0.mk Q_HC2
      have HC3 := Aside0.mk Q_HC3
      refine value_ (w1 := w') (v := .slice A l.length c) (wanted_on rfl rfl rfl (e40.trans (by first | rfl | (simp [*]; done)))) rfl ?_ ?_
      · go_simp
        (try simp only [i64_w])
        try rfl
      refine hK.out _ _ ⟨A4, c4, A5, c5, m12_, m15_, (by rw [ha.out]; exact putSel_upk 14 hb_ rfl rfl rfl), Q_HB, Q_HC2, Q_HC3, Q_HC4, fun h0_ => absurd ((hoff 15 (by kernel_rfl)).symm.trans h0_) (by decide), Q_X12_, fun h0_ => absurd ((hoff 15 (by kernel_rfl)).symm.trans h0_) (by decide)⟩
    refine steps_cons ?_ ?_
    · rintro b a w' ⟨A4, c4, A5, c5, m12_, m15_, ha, Q_HB, Q_HC2, Q_HC3, Q_HC4, Q_HC5, Q_X12_, Q_X15_⟩ hb_ hon hoff
      refine ⟨_, rfl, fun K hK => ?_⟩
      have e44 : a.tmps[44]? = some (.slice A l.length c) := by rw [ha]; exact putSel_on (e := (14, 44, .slice A l.length c)) 14 rfl rfl (hon 14 (by kernel_rfl)) rfl
      have e40 : a.tmps[40]? = some (.bool true) := by rw [ha]; exact putSel_on (e := (10, 40, .bool true)) 10 rfl rfl (hon 10 (by kernel_rfl)) rfl
      replace ha := Aside0.mk ha
      have HB := Aside0.mk Q_HB
      have HC2 := Aside0.mk Q_HC2
      have HC3 := Aside0.mk Q_HC3
      have HC4 := Aside0.mk (Q_HC4 (hon 12 (by kernel_rfl)))
      refine goes_ Try.func13 (by kernel_rfl) rfl #[.slice A l.length c] (wanted_on rfl rfl rfl (e40.trans (by first | rfl | (simp [*]; done)))) rfl rfl (by first | (simp only [List.map_toArray, List.map_cons, List.map_nil, Act.eval, Array.getD_eq_getD_getElem?, Option.getD_some, e44, e40]; done) | (simp only [List.map_toArray, List.map_cons, List.map_nil, Act.eval, Array.getD_eq_getD_getElem?, Option.getD_some, e44, e40]; rfl)) ?_
      refine (viaductref01_Pad.calls k2 A c l _ _ (Kd.C_below HR.out HB.out) hc HK2.out).mono ?_
      rintro e w2_ ⟨v_, rfl, hv, hb⟩
      obtain ⟨A5_, c5_, e5_⟩ := Kd.R_slice hv
      subst e5_
      refine ⟨_, rfl, ?_⟩
      refine hK.out _ _ ⟨A4, c4, A5_, c5_, m12_, (.slice A5_ (padF l).length c5_), (by rw [ha.out]; exact putSel_upk 15 hb_ rfl rfl rfl), below_then HB.out HB.out.size hb, Kd.C_below HC2.out hb, Kd.C_below HC3.out hb, fun _ => Kd.C_below HC4.out hb, fun _ => (Kd.R_reads' hv).2.2, Q_X12_, fun _ => rfl⟩
    refine steps_cons ?_ ?_
    · rintro b a w' ⟨A4, c4, A5, c5, m12_, m15_, ha, Q_HB, Q_HC2, Q_HC3, Q_HC4, Q_HC5, Q_X12_, Q_X15_⟩ hb_ hon hoff
      refine ⟨_, rfl, fun K hK => ?_⟩
      have e45 : a.tmps[45]? = some (m15_) := by rw [ha]; exact putSel_on (e := (15, 45, m15_)) 15 rfl rfl (hon 15 (by kernel_rfl)) rfl
      rw [Q_X15_ (hon 15 (by kernel_rfl))] at e45
      have e40 : a.tmps[40]? = some (.bool true) := by rw [ha]; exact putSel_on (e := (10, 40, .bool true)) 10 rfl rfl (hon 10 (by kernel_rfl)) rfl
      replace ha := Aside0.mk ha
      have HB := Aside0.mk Q_HB
      have HC2 := Aside0.mk Q_HC2
      have HC3 := Aside0.mk Q_HC3
      have HC4 := Aside0.mk (Q_HC4 (hon 12 (by kernel_rfl)))
      have HC5 := Aside0.mk (Q_HC5 (hon 15 (by kernel_rfl)))
      have hcv_ := conv (c := c5) HC5.out
      refine value_ (w1 := w') (v := .string (strOfNums (padF l))) (wanted_on rfl rfl rfl (e40.trans (by first | rfl | (simp [*]; done)))) rfl ?_ ?_
      · go_simp
        (try simp only [i64_w])
        try rfl
      refine hK.out _ _ ⟨A4, c4, A5, c5, m12_, m15_, (by rw [ha.out]; exact putSel_upk 16 hb_ rfl rfl rfl), Q_HB, Q_HC2, Q_HC3, Q_HC4, Q_HC5, Q_X12_, Q_X15_⟩
    refine steps_cons ?_ ?_
    · rintro b a w' ⟨A4, c4, A5, c5, m12_, m15_, ha, Q_HB, Q_HC2, Q_HC3, Q_HC4, Q_HC5, Q_X12_, Q_X15_⟩ hb_ hon hoff
      refine ⟨_, rfl, fun K hK => ?_⟩
      have e43 : a.tmps[43]? = some (.string (strOfNums (padF l))) := by rw [ha]; exact putSel_on (e := (13, 43, .string (strOfNums (padF l)))) 13 rfl rfl (hon 13 (by kernel_rfl)) rfl
      have e46 : a.tmps[46]? = some (.string (strOfNums (padF l))) := by rw [ha]; exact putSel_on (e := (16, 46, .string (strOfNums (padF l)))) 16 rfl rfl (hon 16 (by kernel_rfl)) rfl
      have e40 : a.tmps[40]? = some (.bool true) := by rw [ha]; exact putSel_on (e := (10, 40, .bool true)) 10 rfl rfl (hon 10 (by kernel_rfl)) rfl
      replace ha := Aside0.mk ha
      have HB := Aside0.mk Q_HB
      have HC2 := Aside0.mk Q_HC2
      have HC3 := Aside0.mk Q_HC3
      have HC4 := Aside0.mk (Q_HC4 (hon 12 (by kernel_rfl)))
      have HC5 := Aside0.mk (Q_HC5 (hon 15 (by kernel_rfl)))
      refine value_ (w1 := w') (v := .bool true) (wanted_on rfl rfl rfl (e40.trans (by first | rfl | (simp [*]; done)))) rfl ?_ ?_
      · go_simp
        (try simp only [i64_w])
        try rfl
      refine hK.out _ _ ⟨A4, c4, A5, c5, m12_, m15_, (by rw [ha.out]; exact putSel_upk 17 hb_ rfl rfl rfl), Q_HB, Q_HC2, Q_HC3, Q_HC4, Q_HC5, Q_X12_, Q_X15_⟩
    refine steps_cons ?_ ?_
    · rintro b a w' ⟨A4, c4, A5, c5, m12_, m15_, ha, Q_HB, Q_HC2, Q_HC3, Q_HC4, Q_HC5, Q_X12_, Q_X15_⟩ hb_ hon hoff
      refine ⟨_, rfl, fun K hK => ?_⟩
      have e40 : a.tmps[40]? = some (.bool true) := by rw [ha]; exact putSel_on (e := (10, 40, .bool true)) 10 rfl rfl (hon 10 (by kernel_rfl)) rfl
      have e47 : a.tmps[47]? = some (.bool true) := by rw [ha]; exact putSel_on (e := (17, 47, .bool true)) 17 rfl rfl (hon 17 (by kernel_rfl)) rfl
      replace ha := Aside0.mk ha
      have HB := Aside0.mk Q_HB
      have HC2 := Aside0.mk Q_HC2
      have HC3 := Aside0.mk Q_HC3
      have HC4 := Aside0.mk (Q_HC4 (hon 12 (by kernel_rfl)))
      have HC5 := Aside0.mk (Q_HC5 (hon 15 (by kernel_rfl)))
      refine value_ (w1 := w') (v := .bool true) (by rfl) rfl ?_ ?_
      · go_simp
        (try simp only [i64_w])
        try rfl
      refine hK.out _ _ ⟨A4, c4, A5, c5, m12_, m15_, (by rw [ha.out]; exact putSel_upk 18 hb_ rfl rfl rfl), Q_HB, Q_HC2, Q_HC3, Q_HC4, Q_HC5, Q_X12_, Q_X15_⟩
    refine steps_cons ?_ ?_
    · rintro b a w' ⟨A4, c4, A5, c5, m12_, m15_, ha, Q_HB, Q_HC2, Q_HC3, Q_HC4, Q_HC5, Q_X12_, Q_X15_⟩ hb_ hon hoff
      refine ⟨_, rfl, fun K hK => ?_⟩
      have e48 : a.tmps[48]? = some (.bool true) := by rw [ha]; exact putSel_on (e := (18, 48, .bool true)) 18 rfl rfl (hon 18 (by kernel_rfl)) rfl
      replace ha := Aside0.mk ha
      have HB := Aside0.mk Q_HB
      have HC2 := Aside0.mk Q_HC2
      have HC3 := Aside0.mk Q_HC3
      have HC4 := Aside0.mk (Q_HC4 (hon 12 (by kernel_rfl)))
      have HC5 := Aside0.mk (Q_HC5 (hon 15 (by kernel_rfl)))
      refine value_ (w1 := w') (v := .bool true) (by rfl) rfl ?_ ?_
      · go_simp
        (try simp only [i64_w])
        try rfl
      refine hK.out _ _ ⟨A4, c4, A5, c5, m12_, m15_, (by rw [ha.out]; exact putSel_upk 19 hb_ rfl rfl rfl), Q_HB, Q_HC2, Q_HC3, Q_HC4, Q_HC5, Q_X12_, Q_X15_⟩
    exact steps_nil
  rintro b a w6 hall ⟨A4, c4, A5, c5, m12_, m15_, ha, Q_HB, Q_HC2, Q_HC3, Q_HC4, Q_HC5, Q_X12_, Q_X15_⟩
  clear HB HC2 HC3
  have hb0_ := hall 0 (by kernel_rfl)
  have hb1_ := hall 1 (by kernel_rfl)
  have hb2_ := hall 2 (by kernel_rfl)
  have hb3_ := hall 3 (by kernel_rfl)
  have hb4_ := hall 4 (by kernel_rfl)
  have hb5_ := hall 5 (by kernel_rfl)
  have hb6_ := hall 6 (by kernel_rfl)
  have hb7_ := hall 7 (by kernel_rfl)
  have hb8_ := hall 8 (by kernel_rfl)
  have hb9_ := hall 9 (by kernel_rfl)
  have hb10_ := hall 10 (by kernel_rfl)
  have hb11_ := hall 11 (by kernel_rfl)
  have hb12_ := hall 12 (by kernel_rfl)
  have hb13_ := hall 13 (by kernel_rfl)
  have hb14_ := hall 14 (by kernel_rfl)
  have hb15_ := hall 15 (by kernel_rfl)
  have hb16_ := hall 16 (by kernel_rfl)
  have hb17_ := hall 17 (by kernel_rfl)
  have hb18_ := hall 18 (by kernel_rfl)
  have hb19_ := hall 19 (by kernel_rfl)
  subst ha
  obtain rfl := Q_X12_ hb12_
  obtain rfl := Q_X15_ hb15_
  simp only [putSel, hb0_, hb1_, hb2_, hb3_, hb4_, hb5_, hb6_, hb7_, hb8_, hb9_, hb10_, hb11_, hb12_, hb13_, hb14_, hb15_, hb16_, hb17_, hb18_, hb19_, if_true, Act.put, List.setIfInBounds_toArray, List.set_cons_zero, List.set_cons_succ]
  have HB := Aside0.mk Q_HB
  clear Q_HB
  have HC2 := Aside0.mk Q_HC2
  clear Q_HC2
  have HC3 := Aside0.mk Q_HC3
  clear Q_HC3
  have HC4 := Aside0.mk (Q_HC4 hb12_)
  clear Q_HC4
  have HC5 := Aside0.mk (Q_HC5 hb15_)
  clear Q_HC5
  clear hall hb0_ hb1_ hb2_ hb3_ hb4_ hb5_ hb6_ hb7_ hb8_ hb9_ hb10_ hb11_ hb12_ hb13_ hb14_ hb15_ hb16_ hb17_ hb18_ hb19_
  go_wp2
  go_ret
  exact ⟨rfl, HB.out⟩

theorem puts_big {w : World} {A : Option Addr} {c len : Nat} (hm : len ≤ maxLen) (hl : ¬ len ≤ 4096) (n u : Int) :
    Calls Try.prog 3 #[.slice A len c, .int .i64 n, .int .u64 u] w fun e w' => e = .returned (.bool true) ∧ Below w.heap.size w w' := by
  unfold maxLen at hm
  go_enter Try.func3, Try.ntmps3
  go_wp2_with fail
  refine (viaductlaw01_alive.calls true _ rfl).mono ?_
  rintro e w1 ⟨rfl, hb⟩
  have HB1 := Aside0.mk hb
  clear hb
  go_wp2
  go_ret
  exact ⟨rfl, HB1.out⟩

theorem puts_walk (a0 : Option Addr) (len0 cap0 : Nat) (z0 : List Int) (a1 a2 : Int) (w : World) (w0 : IsRow .u8 w a0 len0 cap0 z0) (y0 : len0 * 1 ≤ 140737488351232) (w1 : (Lit.int .i64 a1).wf = true) (w2 : (Lit.int .u64 a2).wf = true) :
    Calls Try.prog 3 #[.slice a0 len0 cap0, .int .i64 a1, .int .u64 a2] w fun e w' => e = .returned (.bool true) ∧ Below w.heap.size w w' := by
  obtain ⟨l, rfl, hr, hm, hw, hc⟩ := ReadsInt.ofRowC w0
  have hu := bounds_u64 w2
  by_cases hl : l.length ≤ 4096
  · exact puts_small (Kd.C_of_reads (d := (0 : Int)) (h1 := fun _ => rfl) hr) hc hl a1 a2 hu.1 (by omega)
  · exact puts_big hm hl a1 a2
end Go.Proofs.Ytkjfemkmooepnaa.Walk
