/- OctetPads answers true. -/
import Derived.Test.YtkjfemkmooepnaaPut
import Derived.Test.YtkjfemkmooepnaaGivAlive01
namespace Go.Proofs.Ytkjfemkmooepnaa.Walk
open Go.RowKit Go.Proofs.YtkjfemkmooepnaaW.PrintWords Go.Proofs.YtkjfemkmooepnaaW.PrintLast Go.Proofs.YtkjfemkmooepnaaW.PrintMore Go.Proofs.Ytkjfemkmooepnaa.Oct Go.Proofs.Ytkjfemkmooepnaa.Giv
set_option linter.unusedVariables false
set_option linter.unusedSimpArgs false

theorem padF_length (l : List Int) : (padF l).length = (l.length + 3) / 4 * 4 := by unfold padF; rw [List.length_append, List.length_replicate]; omega
theorem padF_twice (l : List Int) : padF (padF l) = padF l := by
  have h := padF_length l
  have e : padF (padF l) = padF l ++ List.replicate (((padF l).length + 3) / 4 * 4 - (padF l).length) 0 := rfl
  rw [e, h]
  have : ((l.length + 3) / 4 * 4 + 3) / 4 * 4 - (l.length + 3) / 4 * 4 = 0 := by omega
  rw [this]
  simp
theorem padF_take (l : List Int) : (padF l).take l.length = l := by simp [padF]
theorem padF_drop (l : List Int) : (padF l).drop l.length = List.replicate ((l.length + 3) / 4 * 4 - l.length) 0 := by simp [padF]

def pads.T6 : Bool × List (List Nat × List Nat) := (true, [([], []), ([0], [0]), ([1], [1]), ([2], [2]), ([3], [3]), ([4], [4]), ([5, 4], [4, 5]), ([4], [4]), ([7, 4], [4, 7]), ([6, 8, 4], [4, 6, 8]), ([4, 9], [4, 9]), ([10, 4], [10]), ([11], [11]), ([12, 11], [11, 12]), ([11], [11]), ([14, 11], [11, 14]), ([15, 11], [11, 15]), ([13, 16, 11], [11, 13, 16]), ([11, 17], [11, 17]), ([18, 11], [18]), ([19], [19]), ([19], [19]), ([21, 19], [19, 21]), ([20, 22, 19], [19, 20, 22]), ([23, 19], [19, 23]), ([19], [19]), ([25, 19], [19, 25]), ([24, 26, 19], [19, 24, 26]), ([19, 27], [19, 27]), ([28, 19], [28]), ([29], [29]), ([30, 29, 29], [29, 30]), ([31, 29], [29, 31]), ([29], [29]), ([33, 29], [29, 33]), ([32, 34, 29], [29, 32, 34]), ([29, 35], [29, 35])])
def pads.B6 : List Nat := [0, 1, 3, 7, 15, 31, 63, 31, 159, 511, 1023, 2047, 4095, 8191, 4095, 20479, 53247, 131071, 262143, 524287, 1048575, 1048575, 3145727, 8388607, 16777215, 1048575, 34603007, 134217727, 268435455, 536870911, 1073741823, 2147483647, 4294967295, 1073741823, 9663676415, 34359738367, 68719476735]
theorem pads.tab6 : rtab .any (opsOf Try.f5 6) = pads.T6 := by kernel_rfl
theorem pads.bits6 : waitsOk pads.T6.2 pads.B6 = true := by kernel_rfl
set_option maxRecDepth 20000 in
set_option maxHeartbeats 2000000 in
theorem pads_small {w : World} {A : Option Addr} {c : Nat} {l : List Int} (hr : Kd.C (Kd.int .u8) w A l.length l) (hc : l.length ≤ c) (hl : l.length ≤ 4096) :
    Calls Try.prog 5 #[.slice A l.length c] w fun e w' => e = .returned (.bool true) ∧ Below w.heap.size w w' := by
  have HR := Aside0.mk hr
  have hpl := padF_length l
  have htw := Aside0.mk (padF_twice l)
  have htk := Aside0.mk (padF_take l)
  have hdr := Aside0.mk (padF_drop l)
  have hpc := fun (w : World) (A : Option Addr) (c : Nat) (h : Kd.C (Kd.int .u8) w A l.length l) (hc : l.length ≤ c) => pad_calls h hc (by omega)
  have HPC := Aside0.mk hpc
  generalize padF l = p at *
  have h1 : l.length ≤ p.length := by omega
  have h2 : p.length ≤ l.length + 3 := by omega
  have h3 : p.length % 4 = 0 := by omega
  have HN := Aside0.mk (show p.length - l.length = (l.length + 3) / 4 * 4 - l.length by omega)
  have hm4 : (((p.length : Int) % 4) != 0) = false := by rw [bne_eq_false_iff_eq]; omega
  have hd1 : decide (p.length < l.length) = false := decide_eq_false (by omega)
  have hd2 : decide ((l.length : Int) + 3 < (p.length : Int)) = false := decide_eq_false (by omega)
  have hd3 : decide (l.length + 3 < p.length) = false := decide_eq_false (by omega)
  obtain ⟨i5, hi5, _, hs5, _⟩ := info_parts info5
  have HI5 := Aside0.mk hi5
  have HS5 := Aside0.mk hs5
  clear hr hpl hpc hi5 hs5
  go_enter Try.func5, Try.ntmps5
  go_wp2_with fail
  refine (viaductlaw01_alive.calls true _ rfl).mono ?_
  rintro e w1 ⟨rfl, hb⟩
  have HB1 := Aside0.mk hb
  clear hb
  go_wp2_with fail
  refine (HPC.out _ _ _ (Kd.C_below HR.out HB1.out) hc).mono ?_
  rintro e w2 ⟨v2, rfl, hv, hb⟩
  have HV2 := Aside0.mk (Kd.R_drew (Kd.R_lower hv HB1.out.size))
  have HB := Aside0.mk (below_drew (below_then HB1.out HB1.out.size hb))
  have HC0 := Aside0.mk (Kd.C_drew (Kd.C_below HR.out (below_then HB1.out HB1.out.size hb)))
  clear hv hb HB1
  obtain ⟨P, pc, e2⟩ := Kd.R_slice HV2.out
  subst e2
  have hpc : p.length ≤ pc := (Kd.R_reads' HV2.out).2.1
  have hs36 := cut_to (P := Try.prog) 22 5 .i64 Try.underlying22 HI5.out P p.length pc (l.length : Int) (by omega) (by omega) hpc
  simp only [Int.toNat_natCast] at hs36
  have hst : ∀ W, Kd.R (Kd.int .u8) 5 W w.heap.size (fun _ => True) (.slice P p.length pc) p → Kd.C (Kd.int .u8) W P l.length l := by
    intro W h
    have h' := Kd.R_take h h1
    rw [htk.out] at h'
    exact (Kd.R_reads' h').2.2
  have HST := Aside0.mk hst
  clear hst
  go_wp2_with fail
  refine start_ (n := 37) (S := fun w' => True) (ds := []) #[false, false, false, false, false, false, false, false, false, false, false, false, false, false, false, false, false, false, false, false, false, false, false, false, false, false, false, false, false, false, false, false, false, false, false, false, false] (by kernel_rfl) rfl rfl trivial (fun hHeld => ?_)
  refine with_tabW pads.tab6 pads.bits6 (fun HT_ HW_ => ?_)
  refine inv_at [0, 1, 2, 3, 4, 5, 6, 7, 8, 9, 10, 11, 12, 13, 14, 15, 16, 17, 18, 19, 20, 21, 22, 23, 24, 25, 26, 27, 28, 29, 30, 31, 32, 33, 34, 35, 36] (fun a0_ b a w' => ∃ (A4 : Option Addr) (c4 : Nat) (m31_ : Value), a = putSel a0_ b [(0, 13, .slice P p.length pc), (1, 14, .int .i64 ((p.length : Nat) : Int)), (2, 15, .int .i64 ((p.length : Int) % 4)), (3, 16, .bool false), (4, 17, .bool false), (5, 18, .slice P p.length pc), (6, 19, .int .i64 ((p.length : Nat) : Int)), (7, 20, .slice A l.length c), (8, 21, .int .i64 ((l.length : Nat) : Int)), (9, 22, .bool false), (10, 23, .bool false), (11, 24, .bool false), (12, 25, .slice P p.length pc), (13, 26, .int .i64 ((p.length : Nat) : Int)), (14, 27, .slice A l.length c), (15, 28, .int .i64 ((l.length : Nat) : Int)), (16, 29, .int .i64 ((l.length : Int) + 3)), (17, 30, .bool false), (18, 31, .bool false), (19, 32, .bool false), (20, 33, .slice P p.length pc), (21, 34, .slice A l.length c), (22, 35, .int .i64 ((l.length : Nat) : Int)), (23, 36, .slice P l.length pc), (24, 37, .string (strOfNums l)), (25, 38, .slice A l.length c), (26, 39, .string (strOfNums l)), (27, 40, .bool false), (28, 41, .bool false), (29, 42, .bool false), (30, 43, .slice P p.length pc), (31, 44, m31_), (32, 45, .string (strOfNums p)), (33, 46, .slice P p.length pc), (34, 47, .string (strOfNums p)), (35, 48, .bool false), (36, 49, .bool false)] ∧ (Below w.heap.size w w') ∧ (Kd.C (Kd.int .u8) w' A l.length l) ∧ (Kd.R (Kd.int .u8) 5 w' w.heap.size (fun _ => True) (.slice P p.length pc) p) ∧ (b 31 = true → Kd.C (Kd.int .u8) w' A4 p.length p) ∧ (b 31 = true → (m31_ : Value) = .slice A4 p.length c4)) HT_.out HW_.out (by kernel_rfl) (by kernel_rfl) ?_ ?_ ?_
  · exact ⟨none, 0, .bool false, by simp only [putSel, Bool.false_eq_true, if_false], HB.out, HC0.out, HV2.out, fun h_ => absurd h_ (by decide), fun h_ => absurd h_ (by decide)⟩
  · skip
    clear HB HC0 HV2
    refine steps_cons ?_ ?_
    · rintro b a w' ⟨A4, c4, m31_, ha, Q_HB, Q_HC0, Q_HV2, Q_HC4, Q_X31_⟩ hb_ hon hoff
      refine ⟨_, rfl, fun K hK => ?_⟩
      have e3 : a.tmps[3]? = some (.slice P p.length pc) := by rw [ha]; exact (putSel_off rfl).trans rfl
      replace ha := Aside0.mk ha
      have HB := Aside0.mk Q_HB
      have HC0 := Aside0.mk Q_HC0
      have HV2 := Aside0.mk Q_HV2
      refine value_ (w1 := w') (v := .slice P p.length pc) (by rfl) rfl ?_ ?_
      · go_simp
        (try simp only [i64_w])
        try rfl
        all_goals (try (unfold wrap64; omega))
      refine hK.out _ _ ⟨A4, c4, m31_, (by rw [ha.out]; exact putSel_upk 0 hb_ rfl rfl rfl), Q_HB, Q_HC0, Q_HV2, fun h0_ => absurd ((hoff 31 (by kernel_rfl)).symm.trans h0_) (by decide), fun h0_ => absurd ((hoff 31 (by kernel_rfl)).symm.trans h0_) (by decide)⟩
    refine steps_cons ?_ ?_
    · rintro b a w' ⟨A4, c4, m31_, ha, Q_HB, Q_HC0, Q_HV2, Q_HC4, Q_X31_⟩ hb_ hon hoff
      refine ⟨_, rfl, fun K hK => ?_⟩
      have e13 : a.tmps[13]? = some (.slice P p.length pc) := by rw [ha]; exact putSel_on (e := (0, 13, .slice P p.length pc)) 0 rfl rfl (hon 0 (by kernel_rfl)) rfl
      replace ha := Aside0.mk ha
      have HB := Aside0.mk Q_HB
      have HC0 := Aside0.mk Q_HC0
      have HV2 := Aside0.mk Q_HV2
      refine value_ (w1 := w') (v := .int .i64 ((p.length : Nat) : Int)) (by rfl) rfl ?_ ?_
      · go_simp
        (try simp only [i64_w])
        try rfl
        all_goals (try (unfold wrap64; omega))
      refine hK.out _ _ ⟨A4, c4, m31_, (by rw [ha.out]; exact putSel_upk 1 hb_ rfl rfl rfl), Q_HB, Q_HC0, Q_HV2, fun h0_ => absurd ((hoff 31 (by kernel_rfl)).symm.trans h0_) (by decide), fun h0_ => absurd ((hoff 31 (by kernel_rfl)).symm.trans h0_) (by decide)⟩
    refine steps_cons ?_ ?_
    · rintro b a w' ⟨A4, c4, m31_, ha, Q_HB, Q_HC0, Q_HV2, Q_HC4, Q_X31_⟩ hb_ hon hoff
      refine ⟨_, rfl, fun K hK => ?_⟩
      have e14 : a.tmps[14]? = some (.int .i64 ((p.length : Nat) : Int)) := by rw [ha]; exact putSel_on (e := (1, 14, .int .i64 ((p.length : Nat) : Int))) 1 rfl rfl (hon 1 (by kernel_rfl)) rfl
      replace ha := Aside0.mk ha
      have HB := Aside0.mk Q_HB
      have HC0 := Aside0.mk Q_HC0
      have HV2 := Aside0.mk Q_HV2
      refine value_ (w1 := w') (v := .int .i64 ((p.length : Int) % 4)) (by rfl) rfl ?_ ?_
      · go_simp
        (try simp only [i64_w])
        try rfl
        all_goals (try (unfold wrap64; omega))
      refine hK.out _ _ ⟨A4, c4, m31_, (by rw [ha.out]; exact putSel_upk 2 hb_ rfl rfl rfl), Q_HB, Q_HC0, Q_HV2, fun h0_ => absurd ((hoff 31 (by kernel_rfl)).symm.trans h0_) (by decide), fun h0_ => absurd ((hoff 31 (by kernel_rfl)).symm.trans h0_) (by decide)⟩
    refine steps_cons ?_ ?_
    · rintro b a w' ⟨A4, c4, m31_, ha, Q_HB, Q_HC0, Q_HV2, Q_HC4, Q_X31_⟩ hb_ hon hoff
      refine ⟨_, rfl, fun K hK => ?_⟩
      have e15 : a.tmps[15]? = some (.int .i64 ((p.length : Int) % 4)) := by rw [ha]; exact putSel_on (e := (2, 15, .int .i64 ((p.length : Int) % 4))) 2 rfl rfl (hon 2 (by kernel_rfl)) rfl
      replace ha := Aside0.mk ha
      have HB := Aside0.mk Q_HB
      have HC0 := Aside0.mk Q_HC0
      have HV2 := Aside0.mk Q_HV2
      refine value_ (w1 := w') (v := .bool false) (by rfl) rfl ?_ ?_
      · go_simp
        (try simp only [i64_w])
        try rfl
        all_goals (try (unfold wrap64; omega))
      refine hK.out _ _ ⟨A4, c4, m31_, (by rw [ha.out]; exact putSel_upk 3 hb_ rfl rfl rfl), Q_HB, Q_HC0, Q_HV2, fun h0_ => absurd ((hoff 31 (by kernel_rfl)).symm.trans h0_) (by decide), fun h0_ => absurd ((hoff 31 (by kernel_rfl)).symm.trans h0_) (by decide)⟩
    refine steps_cons ?_ ?_
    · rintro b a w' ⟨A4, c4, m31_, ha, Q_HB, Q_HC0, Q_HV2, Q_HC4, Q_X31_⟩ hb_ hon hoff
      refine ⟨_, rfl, fun K hK => ?_⟩
      have e16 : a.tmps[16]? = some (.bool false) := by rw [ha]; exact putSel_on (e := (3, 16, .bool false)) 3 rfl rfl (hon 3 (by kernel_rfl)) rfl
      replace ha := Aside0.mk ha
      have HB := Aside0.mk Q_HB
      have HC0 := Aside0.mk Q_HC0
      have HV2 := Aside0.mk Q_HV2
      refine value_ (w1 := w') (v := .bool false) (by rfl) rfl ?_ ?_
      · go_simp
        (try simp only [i64_w])
        try rfl
        all_goals (try (unfold wrap64; omega))
      refine hK.out _ _ ⟨A4, c4, m31_, (by rw [ha.out]; exact putSel_upk 4 hb_ rfl rfl rfl), Q_HB, Q_HC0, Q_HV2, fun h0_ => absurd ((hoff 31 (by kernel_rfl)).symm.trans h0_) (by decide), fun h0_ => absurd ((hoff 31 (by kernel_rfl)).symm.trans h0_) (by decide)⟩
    refine steps_cons ?_ ?_
    · rintro b a w' ⟨A4, c4, m31_, ha, Q_HB, Q_HC0, Q_HV2, Q_HC4, Q_X31_⟩ hb_ hon hoff
      refine ⟨_, rfl, fun K hK => ?_⟩
      have e3 : a.tmps[3]? = some (.slice P p.length pc) := by rw [ha]; exact (putSel_off rfl).trans rfl
      have e17 : a.tmps[17]? = some (.bool false) := by rw [ha]; exact putSel_on (e := (4, 17, .bool false)) 4 rfl rfl (hon 4 (by kernel_rfl)) rfl
      replace ha := Aside0.mk ha
      have HB := Aside0.mk Q_HB
      have HC0 := Aside0.mk Q_HC0
      have HV2 := Aside0.mk Q_HV2
      refine value_ (w1 := w') (v := .slice P p.length pc) (wanted_on rfl rfl rfl (e17.trans (by first | rfl | (simp [*]; done)))) rfl ?_ ?_
      · go_simp
        (try simp only [i64_w])
        try rfl
        all_goals (try (unfold wrap64; omega))
      refine hK.out _ _ ⟨A4, c4, m31_, (by rw [ha.out]; exact putSel_upk 5 hb_ rfl rfl rfl), Q_HB, Q_HC0, Q_HV2, fun h0_ => absurd ((hoff 31 (by kernel_rfl)).symm.trans h0_) (by decide), fun h0_ => absurd ((hoff 31 (by kernel_rfl)).symm.trans h0_) (by decide)⟩
    refine steps_cons ?_ ?_
    · rintro b a w' ⟨A4, c4, m31_, ha, Q_HB, Q_HC0, Q_HV2, Q_HC4, Q_X31_⟩ hb_ hon hoff
      refine ⟨_, rfl, fun K hK => ?_⟩
      have e18 : a.tmps[18]? = some (.slice P p.length pc) := by rw [ha]; exact putSel_on (e := (5, 18, .slice P p.length pc)) 5 rfl rfl (hon 5 (by kernel_rfl)) rfl
      have e17 : a.tmps[17]? = some (.bool false) := by rw [ha]; exact putSel_on (e := (4, 17, .bool false)) 4 rfl rfl (hon 4 (by kernel_rfl)) rfl
      replace ha := Aside0.mk ha
      have HB := Aside0.mk Q_HB
      have HC0 := Aside0.mk Q_HC0
      have HV2 := Aside0.mk Q_HV2
      refine value_ (w1 := w') (v := .int .i64 ((p.length : Nat) : Int)) (wanted_on rfl rfl rfl (e17.trans (by first | rfl | (simp [*]; done)))) rfl ?_ ?_
      · go_simp
        (try simp only [i64_w])
        try rfl
        all_goals (try (unfold wrap64; omega))
      refine hK.out _ _ ⟨A4, c4, m31_, (by rw [ha.out]; exact putSel_upk 6 hb_ rfl rfl rfl), Q_HB, Q_HC0, Q_HV2, fun h0_ => absurd ((hoff 31 (by kernel_rfl)).symm.trans h0_) (by decide), fun h0_ => absurd ((hoff 31 (by kernel_rfl)).symm.trans h0_) (by decide)⟩
    refine steps_cons ?_ ?_
    · rintro b a w' ⟨A4, c4, m31_, ha, Q_HB, Q_HC0, Q_HV2, Q_HC4, Q_X31_⟩ hb_ hon hoff
      refine ⟨_, rfl, fun K hK => ?_⟩
      have e0 : a.tmps[0]? = some (.slice A l.length c) := by rw [ha]; exact (putSel_off rfl).trans rfl
      have e17 : a.tmps[17]? = some (.bool false) := by rw [ha]; exact putSel_on (e := (4, 17, .bool false)) 4 rfl rfl (hon 4 (by kernel_rfl)) rfl
      replace ha := Aside0.mk ha
      have HB := Aside0.mk Q_HB
      have HC0 := Aside0.mk Q_HC0
      have HV2 := Aside0.mk Q_HV2
      refine value_ (w1 := w') (v := .slice A l.length c) (wanted_on rfl rfl rfl (e17.trans (by first | rfl | (simp [*]; done)))) rfl ?_ ?_
      · go_simp
        (try simp only [i64_w])
        try rfl
        all_goals (try (unfold wrap64; omega))
      refine hK.out _ _ ⟨A4, c4, m31_, (by rw [ha.out]; exact putSel_upk 7 hb_ rfl rfl rfl), Q_HB, Q_HC0, Q_HV2, fun h0_ => absurd ((hoff 31 (by kernel_rfl)).symm.trans h0_) (by decide), fun h0_ => absurd ((hoff 31 (by kernel_rfl)).symm.trans h0_) (by decide)⟩
    refine steps_cons ?_ ?_
    · rintro b a w' ⟨A4, c4, m31_, ha, Q_HB, Q_HC0, Q_HV2, Q_HC4, Q_X31_⟩ hb_ hon hoff
      refine ⟨_, rfl, fun K hK => ?_⟩
      have e20 : a.tmps[20]? = some (.slice A l.length c) := by rw [ha]; exact putSel_on (e := (7, 20, .slice A l.length c)) 7 rfl rfl (hon 7 (by kernel_rfl)) rfl
      have e17 : a.tmps[17]? = some (.bool false) := by rw [ha]; exact putSel_on (e := (4, 17, .bool false)) 4 rfl rfl (hon 4 (by kernel_rfl)) rfl
      replace ha := Aside0.mk ha
      have HB := Aside0.mk Q_HB
      have HC0 := Aside0.mk Q_HC0
      have HV2 := Aside0.mk Q_HV2
      refine value_ (w1 := w') (v := .int .i64 ((l.length : Nat) : Int)) (wanted_on rfl rfl rfl (e17.trans (by first | rfl | (simp [*]; done)))) rfl ?_ ?_
      · go_simp
        (try simp only [i64_w])
        try rfl
        all_goals (try (unfold wrap64; omega))
      refine hK.out _ _ ⟨A4, c4, m31_, (by rw [ha.out]; exact putSel_upk 8 hb_ rfl rfl rfl), Q_HB, Q_HC0, Q_HV2, fun h0_ => absurd ((hoff 31 (by kernel_rfl)).symm.trans h0_) (by decide), fun h0_ => absurd ((hoff 31 (by kernel_rfl)).symm.trans h0_) (by decide)⟩
    refine steps_cons ?_ ?_
    · rintro b a w' ⟨A4, c4, m31_, ha, Q_HB, Q_HC0, Q_HV2, Q_HC4, Q_X31_⟩ hb_ hon hoff
      refine ⟨_, rfl, fun K hK => ?_⟩
      have e19 : a.tmps[19]? = some (.int .i64 ((p.length : Nat) : Int)) := by rw [ha]; exact putSel_on (e := (6, 19, .int .i64 ((p.length : Nat) : Int))) 6 rfl rfl (hon 6 (by kernel_rfl)) rfl
      have e21 : a.tmps[21]? = some (.int .i64 ((l.length : Nat) : Int)) := by rw [ha]; exact putSel_on (e := (8, 21, .int .i64 ((l.length : Nat) : Int))) 8 rfl rfl (hon 8 (by kernel_rfl)) rfl
      have e17 : a.tmps[17]? = some (.bool false) := by rw [ha]; exact putSel_on (e := (4, 17, .bool false)) 4 rfl rfl (hon 4 (by kernel_rfl)) rfl
      replace ha := Aside0.mk ha
      have HB := Aside0.mk Q_HB
      have HC0 := Aside0.mk Q_HC0
      have HV2 := Aside0.mk Q_HV2
      refine value_ (w1 := w') (v := .bool false) (wanted_on rfl rfl rfl (e17.trans (by first | rfl | (simp [*]; done)))) rfl ?_ ?_
      · go_simp
        (try simp only [i64_w])
        try rfl
        all_goals (try (unfold wrap64; omega))
      refine hK.out _ _ ⟨A4, c4, m31_, (by rw [ha.out]; exact putSel_upk 9 hb_ rfl rfl rfl), Q_HB, Q_HC0, Q_HV2, fun h0_ => absurd ((hoff 31 (by kernel_rfl)).symm.trans h0_) (by decide), fun h0_ => absurd ((hoff 31 (by kernel_rfl)).symm.trans h0_) (by decide)⟩
    refine steps_cons ?_ ?_
    · rintro b a w' ⟨A4, c4, m31_, ha, Q_HB, Q_HC0, Q_HV2, Q_HC4, Q_X31_⟩ hb_ hon hoff
      refine ⟨_, rfl, fun K hK => ?_⟩
      have e17 : a.tmps[17]? = some (.bool false) := by rw [ha]; exact putSel_on (e := (4, 17, .bool false)) 4 rfl rfl (hon 4 (by kernel_rfl)) rfl
      have e22 : a.tmps[22]? = some (.bool false) := by rw [ha]; exact putSel_on (e := (9, 22, .bool false)) 9 rfl rfl (hon 9 (by kernel_rfl)) rfl
      replace ha := Aside0.mk ha
      have HB := Aside0.mk Q_HB
      have HC0 := Aside0.mk Q_HC0
      have HV2 := Aside0.mk Q_HV2
      refine value_ (w1 := w') (v := .bool false) (by rfl) rfl ?_ ?_
      · go_simp
        (try simp only [i64_w])
        try rfl
        all_goals (try (unfold wrap64; omega))
      refine hK.out _ _ ⟨A4, c4, m31_, (by rw [ha.out]; exact putSel_upk 10 hb_ rfl rfl rfl), Q_HB, Q_HC0, Q_HV2, fun h0_ => absurd ((hoff 31 (by kernel_rfl)).symm.trans h0_) (by decide), fun h0_ => absurd ((hoff 31 (by kernel_rfl)).symm.trans h0_) (by decide)⟩
    refine steps_cons ?_ ?_
    · rintro b a w' ⟨A4, c4, m31_, ha, Q_HB, Q_HC0, Q_HV2, Q_HC4, Q_X31_⟩ hb_ hon hoff
      refine ⟨_, rfl, fun K hK => ?_⟩
      have e23 : a.tmps[23]? = some (.bool false) := by rw [ha]; exact putSel_on (e := (10, 23, .bool false)) 10 rfl rfl (hon 10 (by kernel_rfl)) rfl
      replace ha := Aside0.mk ha
      have HB := Aside0.mk Q_HB
      have HC0 := Aside0.mk Q_HC0
      have HV2 := Aside0.mk Q_HV2
      refine value_ (w1 := w') (v := .bool false) (by rfl) rfl ?_ ?_
      · go_simp
        (try simp only [i64_w])
        try rfl
        all_goals (try (unfold wrap64; omega))
      refine hK.out _ _ ⟨A4, c4, m31_, (by rw [ha.out]; exact putSel_upk 11 hb_ rfl rfl rfl), Q_HB, Q_HC0, Q_HV2, fun h0_ => absurd ((hoff 31 (by kernel_rfl)).symm.trans h0_) (by decide), fun h0_ => absurd ((hoff 31 (by kernel_rfl)).symm.trans h0_) (by decide)⟩
    refine steps_cons ?_ ?_
    · rintro b a w' ⟨A4, c4, m31_, ha, Q_HB, Q_HC0, Q_HV2, Q_HC4, Q_X31_⟩ hb_ hon hoff
      refine ⟨_, rfl, fun K hK => ?_⟩
      have e3 : a.tmps[3]? = some (.slice P p.length pc) := by rw [ha]; exact (putSel_off rfl).trans rfl
      have e24 : a.tmps[24]? = some (.bool false) := by rw [ha]; exact putSel_on (e := (11, 24, .bool false)) 11 rfl rfl (hon 11 (by kernel_rfl)) rfl
      replace ha := Aside0.mk ha
      have HB := Aside0.mk Q_HB
      have HC0 := Aside0.mk Q_HC0
      have HV2 := Aside0.mk Q_HV2
      refine value_ (w1 := w') (v := .slice P p.length pc) (wanted_on rfl rfl rfl (e24.trans (by first | rfl | (simp [*]; done)))) rfl ?_ ?_
      · go_simp
        (try simp only [i64_w])
        try rfl
        all_goals (try (unfold wrap64; omega))
      refine hK.out _ _ ⟨A4, c4, m31_, (by rw [ha.out]; exact putSel_upk 12 hb_ rfl rfl rfl), Q_HB, Q_HC0, Q_HV2, fun h0_ => absurd ((hoff 31 (by kernel_rfl)).symm.trans h0_) (by decide), fun h0_ => absurd ((hoff 31 (by kernel_rfl)).symm.trans h0_) (by decide)⟩
    refine steps_cons ?_ ?_
    · rintro b a w' ⟨A4, c4, m31_, ha, Q_HB, Q_HC0, Q_HV2, Q_HC4, Q_X31_⟩ hb_ hon hoff
      refine ⟨_, rfl, fun K hK => ?_⟩
      have e25 : a.tmps[25]? = some (.slice P p.length pc) := by rw [ha]; exact putSel_on (e := (12, 25, .slice P p.length pc)) 12 rfl rfl (hon 12 (by kernel_rfl)) rfl
      have e24 : a.tmps[24]? = some (.bool false) := by rw [ha]; exact putSel_on (e := (11, 24, .bool false)) 11 rfl rfl (hon 11 (by kernel_rfl)) rfl
      replace ha := Aside0.mk ha
      have HB := Aside0.mk Q_HB
      have HC0 := Aside0.mk Q_HC0
      have HV2 := Aside0.mk Q_HV2
      refine value_ (w1 := w') (v := .int .i64 ((p.length : Nat) : Int)) (wanted_on rfl rfl rfl (e24.trans (by first | rfl | (simp [*]; done)))) rfl ?_ ?_
      · go_simp
        (try simp only [i64_w])
        try rfl
        all_goals (try (unfold wrap64; omega))
      refine hK.out _ _ ⟨A4, c4, m31_, (by rw [ha.out]; exact putSel_upk 13 hb_ rfl rfl rfl), Q_HB, Q_HC0, Q_HV2, fun h0_ => absurd ((hoff 31 (by kernel_rfl)).symm.trans h0_) (by decide), fun h0_ => absurd ((hoff 31 (by kernel_rfl)).symm.trans h0_) (by decide)⟩
    refine steps_cons ?_ ?_
    · rintro b a w' ⟨A4, c4, m31_, ha, Q_HB, Q_HC0, Q_HV2, Q_HC4, Q_X31_⟩ hb_ hon hoff
      refine ⟨_, rfl, fun K hK => ?_⟩
      have e0 : a.tmps[0]? = some (.slice A l.length c) := by rw [ha]; exact (putSel_off rfl).trans rfl
      have e24 : a.tmps[24]? = some (.bool false) := by rw [ha]; exact putSel_on (e := (11, 24, .bool false)) 11 rfl rfl (hon 11 (by kernel_rfl)) rfl
      replace ha := Aside0.mk ha
      have HB := Aside0.mk Q_HB
      have HC0 := Aside0.mk Q_HC0
      have HV2 := Aside0.mk Q_HV2
      refine value_ (w1 := w') (v := .slice A l.length c) (wanted_on rfl rfl rfl (e24.trans (by first | rfl | (simp [*]; done)))) rfl ?_ ?_
      · go_simp
        (try simp only [i64_w])
        try rfl
        all_goals (try (unfold wrap64; omega))
      refine hK.out _ _ ⟨A4, c4, m31_, (by rw [ha.out]; exact putSel_upk 14 hb_ rfl rfl rfl), Q_HB, Q_HC0, Q_HV2, fun h0_ => absurd ((hoff 31 (by kernel_rfl)).symm.trans h0_) (by decide), fun h0_ => absurd ((hoff 31 (by kernel_rfl)).symm.trans h0_) (by decide)⟩
    refine steps_cons ?_ ?_
    · rintro b a w' ⟨A4, c4, m31_, ha, Q_HB, Q_HC0, Q_HV2, Q_HC4, Q_X31_⟩ hb_ hon hoff
      refine ⟨_, rfl, fun K hK => ?_⟩
      have e27 : a.tmps[27]? = some (.slice A l.length c) := by rw [ha]; exact putSel_on (e := (14, 27, .slice A l.length c)) 14 rfl rfl (hon 14 (by kernel_rfl)) rfl
      have e24 : a.tmps[24]? = some (.bool false) := by rw [ha]; exact putSel_on (e := (11, 24, .bool false)) 11 rfl rfl (hon 11 (by kernel_rfl)) rfl
      replace ha := Aside0.mk ha
      have HB := Aside0.mk Q_HB
      have HC0 := Aside0.mk Q_HC0
      have HV2 := Aside0.mk Q_HV2
      refine value_ (w1 := w') (v := .int .i64 ((l.length : Nat) : Int)) (wanted_on rfl rfl rfl (e24.trans (by first | rfl | (simp [*]; done)))) rfl ?_ ?_
      · go_simp
        (try simp only [i64_w])
        try rfl
        all_goals (try (unfold wrap64; omega))
      refine hK.out _ _ ⟨A4, c4, m31_, (by rw [ha.out]; exact putSel_upk 15 hb_ rfl rfl rfl), Q_HB, Q_HC0, Q_HV2, fun h0_ => absurd ((hoff 31 (by kernel_rfl)).symm.trans h0_) (by decide), fun h0_ => absurd ((hoff 31 (by kernel_rfl)).symm.trans h0_) (by decide)⟩
    refine steps_cons ?_ ?_
    · rintro b a w' ⟨A4, c4, m31_, ha, Q_HB, Q_HC0, Q_HV2, Q_HC4, Q_X31_⟩ hb_ hon hoff
      refine ⟨_, rfl, fun K hK => ?_⟩
      have e28 : a.tmps[28]? = some (.int .i64 ((l.length : Nat) : Int)) := by rw [ha]; exact putSel_on (e := (15, 28, .int .i64 ((l.length : Nat) : Int))) 15 rfl rfl (hon 15 (by kernel_rfl)) rfl
      have e24 : a.tmps[24]? = some (.bool false) := by rw [ha]; exact putSel_on (e := (11, 24, .bool false)) 11 rfl rfl (hon 11 (by kernel_rfl)) rfl
      replace ha := Aside0.mk ha
      have HB := Aside0.mk Q_HB
      have HC0 := Aside0.mk Q_HC0
      have HV2 := Aside0.mk Q_HV2
      refine value_ (w1 := w') (v := .int .i64 ((l.length : Int) + 3)) (wanted_on rfl rfl rfl (e24.trans (by first | rfl | (simp [*]; done)))) rfl ?_ ?_
      · go_simp
        (try simp only [i64_w])
        try rfl
        all_goals (try (unfold wrap64; omega))
      refine hK.out _ _ ⟨A4, c4, m31_, (by rw [ha.out]; exact putSel_upk 16 hb_ rfl rfl rfl), Q_HB, Q_HC0, Q_HV2, fun h0_ => absurd ((hoff 31 (by kernel_rfl)).symm.trans h0_) (by decide), fun h0_ => absurd ((hoff 31 (by kernel_rfl)).symm.trans h0_) (by decide)⟩
    refine steps_cons ?_ ?_
    · rintro b a w' ⟨A4, c4, m31_, ha, Q_HB, Q_HC0, Q_HV2, Q_HC4, Q_X31_⟩ hb_ hon hoff
      refine ⟨_, rfl, fun K hK => ?_⟩
      have e26 : a.tmps[26]? = some (.int .i64 ((p.length : Nat) : Int)) := by rw [ha]; exact putSel_on (e := (13, 26, .int .i64 ((p.length : Nat) : Int))) 13 rfl rfl (hon 13 (by kernel_rfl)) rfl
      have e29 : a.tmps[29]? = some (.int .i64 ((l.length : Int) + 3)) := by rw [ha]; exact putSel_on (e := (16, 29, .int .i64 ((l.length : Int) + 3))) 16 rfl rfl (hon 16 (by kernel_rfl)) rfl
      have e24 : a.tmps[24]? = some (.bool false) := by rw [ha]; exact putSel_on (e := (11, 24, .bool false)) 11 rfl rfl (hon 11 (by kernel_rfl)) rfl
      replace ha := Aside0.mk ha
      have HB := Aside0.mk Q_HB
      have HC0 := Aside0.mk Q_HC0
      have HV2 := Aside0.mk Q_HV2
      refine value_ (w1 := w') (v := .bool false) (wanted_on rfl rfl rfl (e24.trans (by first | rfl | (simp [*]; done)))) rfl ?_ ?_
      · go_simp
        (try simp only [i64_w])
        try rfl
        all_goals (try (unfold wrap64; omega))
      refine hK.out _ _ ⟨A4, c4, m31_, (by rw [ha.out]; exact putSel_upk 17 hb_ rfl rfl rfl), Q_HB, Q_HC0, Q_HV2, fun h0_ => absurd ((hoff 31 (by kernel_rfl)).symm.trans h0_) (by decide), fun h0_ => absurd ((hoff 31 (by kernel_rfl)).symm.trans h0_) (by decide)⟩
    refine steps_cons ?_ ?_
    · rintro b a w' ⟨A4, c4, m31_, ha, Q_HB, Q_HC0, Q_HV2, Q_HC4, Q_X31_⟩ hb_ hon hoff
      refine ⟨_, rfl, fun K hK => ?_⟩
      have e24 : a.tmps[24]? = some (.bool false) := by rw [ha]; exact putSel_on (e := (11, 24, .bool false)) 11 rfl rfl (hon 11 (by kernel_rfl)) rfl
      have e30 : a.tmps[30]? = some (.bool false) := by rw [ha]; exact putSel_on (e := (17, 30, .bool false)) 17 rfl rfl (hon 17 (by kernel_rfl)) rfl
      replace ha := Aside0.mk ha
      have HB := Aside0.mk Q_HB
      have HC0 := Aside0.mk Q_HC0
      have HV2 := Aside0.mk Q_HV2
      refine value_ (w1 := w') (v := .bool false) (by rfl) rfl ?_ ?_
      · go_simp
        (try simp only [i64_w])
        try rfl
        all_goals (try (unfold wrap64; omega))
      refine hK.out _ _ ⟨A4, c4, m31_, (by rw [ha.out]; exact putSel_upk 18 hb_ rfl rfl rfl), Q_HB, Q_HC0, Q_HV2, fun h0_ => absurd ((hoff 31 (by kernel_rfl)).symm.trans h0_) (by decide), fun h0_ => absurd ((hoff 31 (by kernel_rfl)).symm.trans h0_) (by decide)⟩
    refine steps_cons ?_ ?_
    · rintro b a w' ⟨A4, c4, m31_, ha, Q_HB, Q_HC0, Q_HV2, Q_HC4, Q_X31_⟩ hb_ hon hoff
      refine ⟨_, rfl, fun K hK => ?_⟩
      have e31 : a.tmps[31]? = some (.bool false) := by rw [ha]; exact putSel_on (e := (18, 31, .bool false)) 18 rfl rfl (hon 18 (by kernel_rfl)) rfl
      replace ha := Aside0.mk ha
      have HB := Aside0.mk Q_HB
      have HC0 := Aside0.mk Q_HC0
      have HV2 := Aside0.mk Q_HV2
      refine value_ (w1 := w') (v := .bool false) (by rfl) rfl ?_ ?_
      · go_simp
        (try simp only [i64_w])
        try rfl
        all_goals (try (unfold wrap64; omega))
      refine hK.out _ _ ⟨A4, c4, m31_, (by rw [ha.out]; exact putSel_upk 19 hb_ rfl rfl rfl), Q_HB, Q_HC0, Q_HV2, fun h0_ => absurd ((hoff 31 (by kernel_rfl)).symm.trans h0_) (by decide), fun h0_ => absurd ((hoff 31 (by kernel_rfl)).symm.trans h0_) (by decide)⟩
    refine steps_cons ?_ ?_
    · rintro b a w' ⟨A4, c4, m31_, ha, Q_HB, Q_HC0, Q_HV2, Q_HC4, Q_X31_⟩ hb_ hon hoff
      refine ⟨_, rfl, fun K hK => ?_⟩
      have e3 : a.tmps[3]? = some (.slice P p.length pc) := by rw [ha]; exact (putSel_off rfl).trans rfl
      have e32 : a.tmps[32]? = some (.bool false) := by rw [ha]; exact putSel_on (e := (19, 32, .bool false)) 19 rfl rfl (hon 19 (by kernel_rfl)) rfl
      replace ha := Aside0.mk ha
      have HB := Aside0.mk Q_HB
      have HC0 := Aside0.mk Q_HC0
      have HV2 := Aside0.mk Q_HV2
      refine value_ (w1 := w') (v := .slice P p.length pc) (wanted_on rfl rfl rfl (e32.trans (by first | rfl | (simp [*]; done)))) rfl ?_ ?_
      · go_simp
        (try simp only [i64_w])
        try rfl
        all_goals (try (unfold wrap64; omega))
      refine hK.out _ _ ⟨A4, c4, m31_, (by rw [ha.out]; exact putSel_upk 20 hb_ rfl rfl rfl), Q_HB, Q_HC0, Q_HV2, fun h0_ => absurd ((hoff 31 (by kernel_rfl)).symm.trans h0_) (by decide), fun h0_ => absurd ((hoff 31 (by kernel_rfl)).symm.trans h0_) (by decide)⟩
    refine steps_cons ?_ ?_
    · rintro b a w' ⟨A4, c4, m31_, ha, Q_HB, Q_HC0, Q_HV2, Q_HC4, Q_X31_⟩ hb_ hon hoff
      refine ⟨_, rfl, fun K hK => ?_⟩
      have e0 : a.tmps[0]? = some (.slice A l.length c) := by rw [ha]; exact (putSel_off rfl).trans rfl
      have e32 : a.tmps[32]? = some (.bool false) := by rw [ha]; exact putSel_on (e := (19, 32, .bool false)) 19 rfl rfl (hon 19 (by kernel_rfl)) rfl
      replace ha := Aside0.mk ha
      have HB := Aside0.mk Q_HB
      have HC0 := Aside0.mk Q_HC0
      have HV2 := Aside0.mk Q_HV2
      refine value_ (w1 := w') (v := .slice A l.length c) (wanted_on rfl rfl rfl (e32.trans (by first | rfl | (simp [*]; done)))) rfl ?_ ?_
      · go_simp
        (try simp only [i64_w])
        try rfl
        all_goals (try (unfold wrap64; omega))
      refine hK.out _ _ ⟨A4, c4, m31_, (by rw [ha.out]; exact putSel_upk 21 hb_ rfl rfl rfl), Q_HB, Q_HC0, Q_HV2, fun h0_ => absurd ((hoff 31 (by kernel_rfl)).symm.trans h0_) (by decide), fun h0_ => absurd ((hoff 31 (by kernel_rfl)).symm.trans h0_) (by decide)⟩
    refine steps_cons ?_ ?_
    · rintro b a w' ⟨A4, c4, m31_, ha, Q_HB, Q_HC0, Q_HV2, Q_HC4, Q_X31_⟩ hb_ hon hoff
      refine ⟨_, rfl, fun K hK => ?_⟩
      have e34 : a.tmps[34]? = some (.slice A l.length c) := by rw [ha]; exact putSel_on (e := (21, 34, .slice A l.length c)) 21 rfl rfl (hon 21 (by kernel_rfl)) rfl
      have e32 : a.tmps[32]? = some (.bool false) := by rw [ha]; exact putSel_on (e := (19, 32, .bool false)) 19 rfl rfl (hon 19 (by kernel_rfl)) rfl
      replace ha := Aside0.mk ha
      have HB := Aside0.mk Q_HB
      have HC0 := Aside0.mk Q_HC0
      have HV2 := Aside0.mk Q_HV2
      refine value_ (w1 := w') (v := .int .i64 ((l.length : Nat) : Int)) (wanted_on rfl rfl rfl (e32.trans (by first | rfl | (simp [*]; done)))) rfl ?_ ?_
      · go_simp
        (try simp only [i64_w])
        try rfl
        all_goals (try (unfold wrap64; omega))
      refine hK.out _ _ ⟨A4, c4, m31_, (by rw [ha.out]; exact putSel_upk 22 hb_ rfl rfl rfl), Q_HB, Q_HC0, Q_HV2, fun h0_ => absurd ((hoff 31 (by kernel_rfl)).symm.trans h0_) (by decide), fun h0_ => absurd ((hoff 31 (by kernel_rfl)).symm.trans h0_) (by decide)⟩
    refine steps_cons ?_ ?_
    · rintro b a w' ⟨A4, c4, m31_, ha, Q_HB, Q_HC0, Q_HV2, Q_HC4, Q_X31_⟩ hb_ hon hoff
      refine ⟨_, rfl, fun K hK => ?_⟩
      have e33 : a.tmps[33]? = some (.slice P p.length pc) := by rw [ha]; exact putSel_on (e := (20, 33, .slice P p.length pc)) 20 rfl rfl (hon 20 (by kernel_rfl)) rfl
      have e35 : a.tmps[35]? = some (.int .i64 ((l.length : Nat) : Int)) := by rw [ha]; exact putSel_on (e := (22, 35, .int .i64 ((l.length : Nat) : Int))) 22 rfl rfl (hon 22 (by kernel_rfl)) rfl
      have e32 : a.tmps[32]? = some (.bool false) := by rw [ha]; exact putSel_on (e := (19, 32, .bool false)) 19 rfl rfl (hon 19 (by kernel_rfl)) rfl
      replace ha := Aside0.mk ha
      have HB := Aside0.mk Q_HB
      have HC0 := Aside0.mk Q_HC0
      have HV2 := Aside0.mk Q_HV2
      refine value_ (w1 := w') (v := .slice P l.length pc) (wanted_on rfl rfl rfl (e32.trans (by first | rfl | (simp [*]; done)))) rfl ?_ ?_
      · go_simp
        (try simp only [i64_w])
        try rfl
        all_goals (try (unfold wrap64; omega))
      refine hK.out _ _ ⟨A4, c4, m31_, (by rw [ha.out]; exact putSel_upk 23 hb_ rfl rfl rfl), Q_HB, Q_HC0, Q_HV2, fun h0_ => absurd ((hoff 31 (by kernel_rfl)).symm.trans h0_) (by decide), fun h0_ => absurd ((hoff 31 (by kernel_rfl)).symm.trans h0_) (by decide)⟩
    refine steps_cons ?_ ?_
    · rintro b a w' ⟨A4, c4, m31_, ha, Q_HB, Q_HC0, Q_HV2, Q_HC4, Q_X31_⟩ hb_ hon hoff
      refine ⟨_, rfl, fun K hK => ?_⟩
      have e36 : a.tmps[36]? = some (.slice P l.length pc) := by rw [ha]; exact putSel_on (e := (23, 36, .slice P l.length pc)) 23 rfl rfl (hon 23 (by kernel_rfl)) rfl
      have e32 : a.tmps[32]? = some (.bool false) := by rw [ha]; exact putSel_on (e := (19, 32, .bool false)) 19 rfl rfl (hon 19 (by kernel_rfl)) rfl
      replace ha := Aside0.mk ha
      have HB := Aside0.mk Q_HB
      have HC0 := Aside0.mk Q_HC0
      have HV2 := Aside0.mk Q_HV2
      have hcv_ := conv (c := pc) (HST.out _ HV2.out)
      refine value_ (w1 := w') (v := .string (strOfNums l)) (wanted_on rfl rfl rfl (e32.trans (by first | rfl | (simp [*]; done)))) rfl ?_ ?_
      · go_simp
        (try simp only [i64_w])
        try rfl
        all_goals (try (unfold wrap64; omega))
      refine hK.out _ _ ⟨A4, c4, m31_, (by rw [ha.out]; exact putSel_upk 24 hb_ rfl rfl rfl), Q_HB, Q_HC0, Q_HV2, fun h0_ => absurd ((hoff 31 (by kernel_rfl)).symm.trans h0_) (by decide), fun h0_ => absurd ((hoff 31 (by kernel_rfl)).symm.trans h0_) (by decide)⟩
    refine steps_cons ?_ ?_
    · rintro b a w' ⟨A4, c4, m31_, ha, Q_HB, Q_HC0, Q_HV2, Q_HC4, Q_X31_⟩ hb_ hon hoff
      refine ⟨_, rfl, fun K hK => ?_⟩
      have e0 : a.tmps[0]? = some (.slice A l.length c) := by rw [ha]; exact (putSel_off rfl).trans rfl
      have e32 : a.tmps[32]? = some (.bool false) := by rw [ha]; exact putSel_on (e := (19, 32, .bool false)) 19 rfl rfl (hon 19 (by kernel_rfl)) rfl
      replace ha := Aside0.mk ha
      have HB := Aside0.mk Q_HB
      have HC0 := Aside0.mk Q_HC0
      have HV2 := Aside0.mk Q_HV2
      refine value_ (w1 := w') (v := .slice A l.length c) (wanted_on rfl rfl rfl (e32.trans (by first | rfl | (simp [*]; done)))) rfl ?_ ?_
      · go_simp
        (try simp only [i64_w])
        try rfl
        all_goals (try (unfold wrap64; omega))
      refine hK.out _ _ ⟨A4, c4, m31_, (by rw [ha.out]; exact putSel_upk 25 hb_ rfl rfl rfl), Q_HB, Q_HC0, Q_HV2, fun h0_ => absurd ((hoff 31 (by kernel_rfl)).symm.trans h0_) (by decide), fun h0_ => absurd ((hoff 31 (by kernel_rfl)).symm.trans h0_) (by decide)⟩
    refine steps_cons ?_ ?_
    · rintro b a w' ⟨A4, c4, m31_, ha, Q_HB, Q_HC0, Q_HV2, Q_HC4, Q_X31_⟩ hb_ hon hoff
      refine ⟨_, rfl, fun K hK => ?_⟩
      have e38 : a.tmps[38]? = some (.slice A l.length c) := by rw [ha]; exact putSel_on (e := (25, 38, .slice A l.length c)) 25 rfl rfl (hon 25 (by kernel_rfl)) rfl
      have e32 : a.tmps[32]? = some (.bool false) := by rw [ha]; exact putSel_on (e := (19, 32, .bool false)) 19 rfl rfl (hon 19 (by kernel_rfl)) rfl
      replace ha := Aside0.mk ha
      have HB := Aside0.mk Q_HB
      have HC0 := Aside0.mk Q_HC0
      have HV2 := Aside0.mk Q_HV2
      have hcv_ := conv (c := c) HC0.out
      refine value_ (w1 := w') (v := .string (strOfNums l)) (wanted_on rfl rfl rfl (e32.trans (by first | rfl | (simp [*]; done)))) rfl ?_ ?_
      · go_simp
        (try simp only [i64_w])
        try rfl
        all_goals (try (unfold wrap64; omega))
      refine hK.out _ _ ⟨A4, c4, m31_, (by rw [ha.out]; exact putSel_upk 26 hb_ rfl rfl rfl), Q_HB, Q_HC0, Q_HV2, fun h0_ => absurd ((hoff 31 (by kernel_rfl)).symm.trans h0_) (by decide), fun h0_ => absurd ((hoff 31 (by kernel_rfl)).symm.trans h0_) (by decide)⟩
    refine steps_cons ?_ ?_
    · rintro b a w' ⟨A4, c4, m31_, ha, Q_HB, Q_HC0, Q_HV2, Q_HC4, Q_X31_⟩ hb_ hon hoff
      refine ⟨_, rfl, fun K hK => ?_⟩
      have e37 : a.tmps[37]? = some (.string (strOfNums l)) := by rw [ha]; exact putSel_on (e := (24, 37, .string (strOfNums l))) 24 rfl rfl (hon 24 (by kernel_rfl)) rfl
      have e39 : a.tmps[39]? = some (.string (strOfNums l)) := by rw [ha]; exact putSel_on (e := (26, 39, .string (strOfNums l))) 26 rfl rfl (hon 26 (by kernel_rfl)) rfl
      have e32 : a.tmps[32]? = some (.bool false) := by rw [ha]; exact putSel_on (e := (19, 32, .bool false)) 19 rfl rfl (hon 19 (by kernel_rfl)) rfl
      replace ha := Aside0.mk ha
      have HB := Aside0.mk Q_HB
      have HC0 := Aside0.mk Q_HC0
      have HV2 := Aside0.mk Q_HV2
      refine value_ (w1 := w') (v := .bool false) (wanted_on rfl rfl rfl (e32.trans (by first | rfl | (simp [*]; done)))) rfl ?_ ?_
      · go_simp
        (try simp only [i64_w])
        try rfl
        all_goals (try (unfold wrap64; omega))
      refine hK.out _ _ ⟨A4, c4, m31_, (by rw [ha.out]; exact putSel_upk 27 hb_ rfl rfl rfl), Q_HB, Q_HC0, Q_HV2, fun h0_ => absurd ((hoff 31 (by kernel_rfl)).symm.trans h0_) (by decide), fun h0_ => absurd ((hoff 31 (by kernel_rfl)).symm.trans h0_) (by decide)⟩
    refine steps_cons ?_ ?_
    · rintro b a w' ⟨A4, c4, m31_, ha, Q_HB, Q_HC0, Q_HV2, Q_HC4, Q_X31_⟩ hb_ hon hoff
      refine ⟨_, rfl, fun K hK => ?_⟩
      have e32 : a.tmps[32]? = some (.bool false) := by rw [ha]; exact putSel_on (e := (19, 32, .bool false)) 19 rfl rfl (hon 19 (by kernel_rfl)) rfl
      have e40 : a.tmps[40]? = some (.bool false) := by rw [ha]; exact putSel_on (e := (27, 40, .bool false)) 27 rfl rfl (hon 27 (by kernel_rfl)) rfl
      replace ha := Aside0.mk ha
      have HB := Aside0.mk Q_HB
      have HC0 := Aside0.mk Q_HC0
      have HV2 := Aside0.mk Q_HV2
      refine value_ (w1 := w') (v := .bool false) (by rfl) rfl ?_ ?_
      · go_simp
        (try simp only [i64_w])
        try rfl
        all_goals (try (unfold wrap64; omega))
      refine hK.out _ _ ⟨A4, c4, m31_, (by rw [ha.out]; exact putSel_upk 28 hb_ rfl rfl rfl), Q_HB, Q_HC0, Q_HV2, fun h0_ => absurd ((hoff 31 (by kernel_rfl)).symm.trans h0_) (by decide), fun h0_ => absurd ((hoff 31 (by kernel_rfl)).symm.trans h0_) (by decide)⟩
    refine steps_cons ?_ ?_
    · rintro b a w' ⟨A4, c4, m31_, ha, Q_HB, Q_HC0, Q_HV2, Q_HC4, Q_X31_⟩ hb_ hon hoff
      refine ⟨_, rfl, fun K hK => ?_⟩
      have e41 : a.tmps[41]? = some (.bool false) := by rw [ha]; exact putSel_on (e := (28, 41, .bool false)) 28 rfl rfl (hon 28 (by kernel_rfl)) rfl
      replace ha := Aside0.mk ha
      have HB := Aside0.mk Q_HB
      have HC0 := Aside0.mk Q_HC0
      have HV2 := Aside0.mk Q_HV2
      refine value_ (w1 := w') (v := .bool false) (by rfl) rfl ?_ ?_
      · go_simp
        (try simp only [i64_w])
        try rfl
        all_goals (try (unfold wrap64; omega))
      refine hK.out _ _ ⟨A4, c4, m31_, (by rw [ha.out]; exact putSel_upk 29 hb_ rfl rfl rfl), Q_HB, Q_HC0, Q_HV2, fun h0_ => absurd ((hoff 31 (by kernel_rfl)).symm.trans h0_) (by decide), fun h0_ => absurd ((hoff 31 (by kernel_rfl)).symm.trans h0_) (by decide)⟩
    refine steps_cons ?_ ?_
    · rintro b a w' ⟨A4, c4, m31_, ha, Q_HB, Q_HC0, Q_HV2, Q_HC4, Q_X31_⟩ hb_ hon hoff
      refine ⟨_, rfl, fun K hK => ?_⟩
      have e3 : a.tmps[3]? = some (.slice P p.length pc) := by rw [ha]; exact (putSel_off rfl).trans rfl
      have e42 : a.tmps[42]? = some (.bool false) := by rw [ha]; exact putSel_on (e := (29, 42, .bool false)) 29 rfl rfl (hon 29 (by kernel_rfl)) rfl
      replace ha := Aside0.mk ha
      have HB := Aside0.mk Q_HB
      have HC0 := Aside0.mk Q_HC0
      have HV2 := Aside0.mk Q_HV2
      refine value_ (w1 := w') (v := .slice P p.length pc) (wanted_on rfl rfl rfl (e42.trans (by first | rfl | (simp [*]; done)))) rfl ?_ ?_
      · go_simp
        (try simp only [i64_w])
        try rfl
        all_goals (try (unfold wrap64; omega))
      refine hK.out _ _ ⟨A4, c4, m31_, (by rw [ha.out]; exact putSel_upk 30 hb_ rfl rfl rfl), Q_HB, Q_HC0, Q_HV2, fun h0_ => absurd ((hoff 31 (by kernel_rfl)).symm.trans h0_) (by decide), fun h0_ => absurd ((hoff 31 (by kernel_rfl)).symm.trans h0_) (by decide)⟩
    refine steps_cons ?_ ?_
    · rintro b a w' ⟨A4, c4, m31_, ha, Q_HB, Q_HC0, Q_HV2, Q_HC4, Q_X31_⟩ hb_ hon hoff
      refine ⟨_, rfl, fun K hK => ?_⟩
      have e43 : a.tmps[43]? = some (.slice P p.length pc) := by rw [ha]; exact putSel_on (e := (30, 43, .slice P p.length pc)) 30 rfl rfl (hon 30 (by kernel_rfl)) rfl
      have e42 : a.tmps[42]? = some (.bool false) := by rw [ha]; exact putSel_on (e := (29, 42, .bool false)) 29 rfl rfl (hon 29 (by kernel_rfl)) rfl
      replace ha := Aside0.mk ha
      have HB := Aside0.mk Q_HB
      have HC0 := Aside0.mk Q_HC0
      have HV2 := Aside0.mk Q_HV2
      refine goes_ Try.func12 (by kernel_rfl) rfl #[.slice P p.length pc] (wanted_on rfl rfl rfl (e42.trans (by first | rfl | (simp [*]; done)))) rfl rfl (by first | (simp only [List.map_toArray, List.map_cons, List.map_nil, Act.eval, Array.getD_eq_getD_getElem?, Option.getD_some, e43, e42]; done) | (simp only [List.map_toArray, List.map_cons, List.map_nil, Act.eval, Array.getD_eq_getD_getElem?, Option.getD_some, e43, e42]; rfl)) ?_
      refine (pad_calls (Kd.R_reads' HV2.out).2.2 hpc (by omega)).mono ?_
      rintro e w2_ ⟨v_, rfl, hv, hb⟩
      rw [htw.out] at hv
      obtain ⟨A4_, c4_, e4_⟩ := Kd.R_slice hv
      subst e4_
      refine ⟨_, rfl, ?_⟩
      refine hK.out _ _ ⟨A4_, c4_, (.slice A4_ p.length c4_), (by rw [ha.out]; exact putSel_upk 31 hb_ rfl rfl rfl), below_then HB.out HB.out.size hb, Kd.C_below HC0.out hb, Kd.R_below HV2.out hb, fun _ => (Kd.R_reads' hv).2.2, fun _ => rfl⟩
    refine steps_cons ?_ ?_
    · rintro b a w' ⟨A4, c4, m31_, ha, Q_HB, Q_HC0, Q_HV2, Q_HC4, Q_X31_⟩ hb_ hon hoff
      refine ⟨_, rfl, fun K hK => ?_⟩
      have e44 : a.tmps[44]? = some (m31_) := by rw [ha]; exact putSel_on (e := (31, 44, m31_)) 31 rfl rfl (hon 31 (by kernel_rfl)) rfl
      rw [Q_X31_ (hon 31 (by kernel_rfl))] at e44
      have e42 : a.tmps[42]? = some (.bool false) := by rw [ha]; exact putSel_on (e := (29, 42, .bool false)) 29 rfl rfl (hon 29 (by kernel_rfl)) rfl
      replace ha := Aside0.mk ha
      have HB := Aside0.mk Q_HB
      have HC0 := Aside0.mk Q_HC0
      have HV2 := Aside0.mk Q_HV2
      have HC4 := Aside0.mk (Q_HC4 (hon 31 (by kernel_rfl)))
      have hcv_ := conv (c := c4) HC4.out
      refine value_ (w1 := w') (v := .string (strOfNums p)) (wanted_on rfl rfl rfl (e42.trans (by first | rfl | (simp [*]; done)))) rfl ?_ ?_
      · go_simp
        (try simp only [i64_w])
        try rfl
        all_goals (try (unfold wrap64; omega))
      refine hK.out _ _ ⟨A4, c4, m31_, (by rw [ha.out]; exact putSel_upk 32 hb_ rfl rfl rfl), Q_HB, Q_HC0, Q_HV2, Q_HC4, Q_X31_⟩
    refine steps_cons ?_ ?_
    · rintro b a w' ⟨A4, c4, m31_, ha, Q_HB, Q_HC0, Q_HV2, Q_HC4, Q_X31_⟩ hb_ hon hoff
      refine ⟨_, rfl, fun K hK => ?_⟩
      have e3 : a.tmps[3]? = some (.slice P p.length pc) := by rw [ha]; exact (putSel_off rfl).trans rfl
      have e42 : a.tmps[42]? = some (.bool false) := by rw [ha]; exact putSel_on (e := (29, 42, .bool false)) 29 rfl rfl (hon 29 (by kernel_rfl)) rfl
      replace ha := Aside0.mk ha
      have HB := Aside0.mk Q_HB
      have HC0 := Aside0.mk Q_HC0
      have HV2 := Aside0.mk Q_HV2
      refine value_ (w1 := w') (v := .slice P p.length pc) (wanted_on rfl rfl rfl (e42.trans (by first | rfl | (simp [*]; done)))) rfl ?_ ?_
      · go_simp
        (try simp only [i64_w])
        try rfl
        all_goals (try (unfold wrap64; omega))
      refine hK.out _ _ ⟨A4, c4, m31_, (by rw [ha.out]; exact putSel_upk 33 hb_ rfl rfl rfl), Q_HB, Q_HC0, Q_HV2, Q_HC4, Q_X31_⟩
    refine steps_cons ?_ ?_
    · rintro b a w' ⟨A4, c4, m31_, ha, Q_HB, Q_HC0, Q_HV2, Q_HC4, Q_X31_⟩ hb_ hon hoff
      refine ⟨_, rfl, fun K hK => ?_⟩
      have e46 : a.tmps[46]? = some (.slice P p.length pc) := by rw [ha]; exact putSel_on (e := (33, 46, .slice P p.length pc)) 33 rfl rfl (hon 33 (by kernel_rfl)) rfl
      have e42 : a.tmps[42]? = some (.bool false) := by rw [ha]; exact putSel_on (e := (29, 42, .bool false)) 29 rfl rfl (hon 29 (by kernel_rfl)) rfl
      replace ha := Aside0.mk ha
      have HB := Aside0.mk Q_HB
      have HC0 := Aside0.mk Q_HC0
      have HV2 := Aside0.mk Q_HV2
      have hcv_ := conv (c := pc) (Kd.R_reads' HV2.out).2.2
      refine value_ (w1 := w') (v := .string (strOfNums p)) (wanted_on rfl rfl rfl (e42.trans (by first | rfl | (simp [*]; done)))) rfl ?_ ?_
      · go_simp
        (try simp only [i64_w])
        try rfl
        all_goals (try (unfold wrap64; omega))
      refine hK.out _ _ ⟨A4, c4, m31_, (by rw [ha.out]; exact putSel_upk 34 hb_ rfl rfl rfl), Q_HB, Q_HC0, Q_HV2, Q_HC4, Q_X31_⟩
    refine steps_cons ?_ ?_
    · rintro b a w' ⟨A4, c4, m31_, ha, Q_HB, Q_HC0, Q_HV2, Q_HC4, Q_X31_⟩ hb_ hon hoff
      refine ⟨_, rfl, fun K hK => ?_⟩
      have e45 : a.tmps[45]? = some (.string (strOfNums p)) := by rw [ha]; exact putSel_on (e := (32, 45, .string (strOfNums p))) 32 rfl rfl (hon 32 (by kernel_rfl)) rfl
      have e47 : a.tmps[47]? = some (.string (strOfNums p)) := by rw [ha]; exact putSel_on (e := (34, 47, .string (strOfNums p))) 34 rfl rfl (hon 34 (by kernel_rfl)) rfl
      have e42 : a.tmps[42]? = some (.bool false) := by rw [ha]; exact putSel_on (e := (29, 42, .bool false)) 29 rfl rfl (hon 29 (by kernel_rfl)) rfl
      replace ha := Aside0.mk ha
      have HB := Aside0.mk Q_HB
      have HC0 := Aside0.mk Q_HC0
      have HV2 := Aside0.mk Q_HV2
      have HC4 := Aside0.mk (Q_HC4 (hon 31 (by kernel_rfl)))
      refine value_ (w1 := w') (v := .bool false) (wanted_on rfl rfl rfl (e42.trans (by first | rfl | (simp [*]; done)))) rfl ?_ ?_
      · go_simp
        (try simp only [i64_w])
        try rfl
        all_goals (try (unfold wrap64; omega))
      refine hK.out _ _ ⟨A4, c4, m31_, (by rw [ha.out]; exact putSel_upk 35 hb_ rfl rfl rfl), Q_HB, Q_HC0, Q_HV2, Q_HC4, Q_X31_⟩
    refine steps_cons ?_ ?_
    · rintro b a w' ⟨A4, c4, m31_, ha, Q_HB, Q_HC0, Q_HV2, Q_HC4, Q_X31_⟩ hb_ hon hoff
      refine ⟨_, rfl, fun K hK => ?_⟩
      have e42 : a.tmps[42]? = some (.bool false) := by rw [ha]; exact putSel_on (e := (29, 42, .bool false)) 29 rfl rfl (hon 29 (by kernel_rfl)) rfl
      have e48 : a.tmps[48]? = some (.bool false) := by rw [ha]; exact putSel_on (e := (35, 48, .bool false)) 35 rfl rfl (hon 35 (by kernel_rfl)) rfl
      replace ha := Aside0.mk ha
      have HB := Aside0.mk Q_HB
      have HC0 := Aside0.mk Q_HC0
      have HV2 := Aside0.mk Q_HV2
      have HC4 := Aside0.mk (Q_HC4 (hon 31 (by kernel_rfl)))
      refine value_ (w1 := w') (v := .bool false) (by rfl) rfl ?_ ?_
      · go_simp
        (try simp only [i64_w])
        try rfl
        all_goals (try (unfold wrap64; omega))
      refine hK.out _ _ ⟨A4, c4, m31_, (by rw [ha.out]; exact putSel_upk 36 hb_ rfl rfl rfl), Q_HB, Q_HC0, Q_HV2, Q_HC4, Q_X31_⟩
    exact steps_nil
  rintro b a w6 hall ⟨A4, c4, m31_, ha, Q_HB, Q_HC0, Q_HV2, Q_HC4, Q_X31_⟩
  clear HB HC0 HV2
  have hb0_ := hall 0 (by kernel_rfl)
  have hb1_ := hall 1 (by kernel_rfl)
  have hb2_ := hall 2 (by kernel_rfl)
  have hb3_ := hall 3 (by kernel_rfl)
  have hb4_ := hall 4 (by kernel_rfl)
  have hb5_ := hall 5 (by kernel_rfl)
  have hb6_ := hall 6 (by kernel_rfl)
  have hb7_ := hall 7 (by kernel_rfl)
  have hb8_ := hall 8 (by kernel_rfl)
  have hb9_ := hall 9 (by kernel_rfl)
  have hb10_ := hall 10 (by kernel_rfl)
  have hb11_ := hall 11 (by kernel_rfl)
  have hb12_ := hall 12 (by kernel_rfl)
  have hb13_ := hall 13 (by kernel_rfl)
  have hb14_ := hall 14 (by kernel_rfl)
  have hb15_ := hall 15 (by kernel_rfl)
  have hb16_ := hall 16 (by kernel_rfl)
  have hb17_ := hall 17 (by kernel_rfl)
  have hb18_ := hall 18 (by kernel_rfl)
  have hb19_ := hall 19 (by kernel_rfl)
  have hb20_ := hall 20 (by kernel_rfl)
  have hb21_ := hall 21 (by kernel_rfl)
  have hb22_ := hall 22 (by kernel_rfl)
  have hb23_ := hall 23 (by kernel_rfl)
  have hb24_ := hall 24 (by kernel_rfl)
  have hb25_ := hall 25 (by kernel_rfl)
  have hb26_ := hall 26 (by kernel_rfl)
  have hb27_ := hall 27 (by kernel_rfl)
  have hb28_ := hall 28 (by kernel_rfl)
  have hb29_ := hall 29 (by kernel_rfl)
  have hb30_ := hall 30 (by kernel_rfl)
  have hb31_ := hall 31 (by kernel_rfl)
  have hb32_ := hall 32 (by kernel_rfl)
  have hb33_ := hall 33 (by kernel_rfl)
  have hb34_ := hall 34 (by kernel_rfl)
  have hb35_ := hall 35 (by kernel_rfl)
  have hb36_ := hall 36 (by kernel_rfl)
  subst ha
  obtain rfl := Q_X31_ hb31_
  simp only [putSel, hb0_, hb1_, hb2_, hb3_, hb4_, hb5_, hb6_, hb7_, hb8_, hb9_, hb10_, hb11_, hb12_, hb13_, hb14_, hb15_, hb16_, hb17_, hb18_, hb19_, hb20_, hb21_, hb22_, hb23_, hb24_, hb25_, hb26_, hb27_, hb28_, hb29_, hb30_, hb31_, hb32_, hb33_, hb34_, hb35_, hb36_, if_true, Act.put, List.setIfInBounds_toArray, List.set_cons_zero, List.set_cons_succ]
  have HB := Aside0.mk Q_HB
  clear Q_HB
  have HC0 := Aside0.mk Q_HC0
  clear Q_HC0
  have HV2 := Aside0.mk Q_HV2
  clear Q_HV2
  have HC4 := Aside0.mk (Q_HC4 hb31_)
  clear Q_HC4
  clear hall hb0_ hb1_ hb2_ hb3_ hb4_ hb5_ hb6_ hb7_ hb8_ hb9_ hb10_ hb11_ hb12_ hb13_ hb14_ hb15_ hb16_ hb17_ hb18_ hb19_ hb20_ hb21_ hb22_ hb23_ hb24_ hb25_ hb26_ hb27_ hb28_ hb29_ hb30_ hb31_ hb32_ hb33_ hb34_ hb35_ hb36_
  clear HC0 HC4
  have hs53 := cut_from (P := Try.prog) 22 5 .i64 Try.underlying22 HI5.out 1 HS5.out P p.length pc (l.length : Int) (by omega) (by omega)
  simp only [Int.toNat_natCast] at hs53
  obtain ⟨P2, hP2⟩ : ∃ P2, (if pc = l.length then P else P.map (·.add (l.length * 1))) = P2 := ⟨_, rfl⟩
  rw [hP2] at hs53
  have hq : Kd.Q (Kd.int .u8) 5 w6 w.heap.size (fun _ => True) (.slice P2 (p.length - l.length) (pc - l.length)) (p.drop l.length) := by rw [← hP2]; exact Kd.Q_drop (Kd.Q_of_R HV2.out) h1
  rw [hdr.out] at hq
  have hC := (Kd.Q_reads' hq).2.2
  rw [List.length_replicate, ← HN.out] at hC
  have HCZ := Aside0.mk hC
  clear hq hC hP2
  go_wp2_with fail
  go_loop [55] (fun i => ∃ k : Nat, k ≤ p.length - l.length ∧ i = .int .i64 k) (fun i => p.length - l.length - (intOf i).toNat)
  case atStart => exact ⟨0, Nat.zero_le _, rfl⟩
  case round =>
    obtain ⟨k, hk, rfl⟩ := hrel
    by_cases hlt : k < p.length - l.length
    · obtain ⟨ad, hA, hcell⟩ := Kd.at_int HCZ.out (k : Int) (by omega) (by omega)
      cases hA
      rw [Int.toNat_natCast] at hcell
      have hz : rd (List.replicate (p.length - l.length) 0) (k : Int) = 0 := by
        simp [rd, List.getD_eq_getElem?_getD, List.getElem?_replicate, hlt]
      rw [hz] at hcell
      clear hz
      go_wp2
      go_round
      case rel => exact ⟨k + 1, by omega, by go_num⟩
      case measure => simp [intOf]; omega
    · go_wp2
      go_ret
      exact ⟨rfl, HB.out⟩

theorem pads_big {w : World} {A : Option Addr} {c len : Nat} (hm : len ≤ maxLen) (hl : ¬ len ≤ 4096) :
    Calls Try.prog 5 #[.slice A len c] w fun e w' => e = .returned (.bool true) ∧ Below w.heap.size w w' := by
  unfold maxLen at hm
  go_enter Try.func5, Try.ntmps5
  go_wp2_with fail
  refine (viaductlaw01_alive.calls true _ rfl).mono ?_
  rintro e w1 ⟨rfl, hb⟩
  have HB1 := Aside0.mk hb
  clear hb
  go_wp2
  go_ret
  exact ⟨rfl, HB1.out⟩

theorem pads_walk (a0 : Option Addr) (len0 cap0 : Nat) (z0 : List Int) (w : World) (w0 : IsRow .u8 w a0 len0 cap0 z0) (y0 : len0 * 1 ≤ 140737488351232) :
    Calls Try.prog 5 #[.slice a0 len0 cap0] w fun e w' => e = .returned (.bool true) ∧ Below w.heap.size w w' := by
  obtain ⟨l, rfl, hr, hm, hw, hc⟩ := ReadsInt.ofRowC w0
  by_cases hl : l.length ≤ 4096
  · exact pads_small (Kd.C_of_reads (d := (0 : Int)) (h1 := fun _ => rfl) hr) hc hl
  · exact pads_big hm hl
end Go.Proofs.Ytkjfemkmooepnaa.Walk
