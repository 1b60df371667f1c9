/- ShimEncodes answers true. -/
import Derived.Test.YtppdmaeoipeefaaPureAlive03
import Derived.Deep.RegionWith
namespace Go.Proofs.Ytppdmaeoipeefaa.Walk
open Go.RowKit Go.Proofs.YtppdmaeoipeefaaW.PrintWords Go.Proofs.YtppdmaeoipeefaaW.PrintLast Go.Proofs.YtppdmaeoipeefaaW.PrintMore Go.Proofs.Ytppdmaeoipeefaa.Oct Go.Proofs.Ytppdmaeoipeefaa.Q Go.Proofs.Ytppdmaeoipeefaa.Ref Go.Proofs.Ytppdmaeoipeefaa.Giv
set_option linter.unusedVariables false
set_option linter.unusedSimpArgs false

def encs.T7 : Bool × List (List Nat × List Nat) := (true, [([], []), ([0], [0]), ([], []), ([2], [2]), ([1, 3], [1, 3]), ([4], [4]), ([5], [5]), ([5], [5]), ([6, 7, 5], [5, 6, 7]), ([5, 8], [5, 8]), ([9, 5], [9]), ([10], [10]), ([11, 10, 10], [10, 11]), ([10], [10]), ([13, 12, 10], [10, 13]), ([12, 14, 10], [10, 12, 14]), ([10, 15], [10, 15]), ([16, 14, 0, 1, 2, 3, 4, 5, 6, 7, 8, 9, 10, 11, 12, 13, 14, 15, 16], [16])])
def encs.B7 : List Nat := [0, 1, 0, 4, 15, 31, 63, 63, 255, 511, 1023, 2047, 4095, 2047, 16383, 32767, 65535, 131071]
theorem encs.tab7 : rtab .any (opsOf Try.f3 7) = encs.T7 := by kernel_rfl
theorem encs.bits7 : waitsOk encs.T7.2 encs.B7 = true := by kernel_rfl
set_option maxRecDepth 20000 in
set_option maxHeartbeats 2000000 in
theorem encodes_small {w : World} {A : Option Addr} {c : Nat} {l : List S24} (x : S24) (hr : Kd.C k24 w A l.length l) (hc : l.length ≤ c) (hl : l.length ≤ 4096) :
    Calls Try.prog 3 #[.slice A l.length c, .agg #[.int .i64 x.f0, .int .i64 x.f1, .int .i64 x.f2]] w fun e w' => e = .returned (.bool true) ∧ Below w.heap.size w w' := by
  obtain ⟨k0, hk0⟩ := alive03.rounds
  obtain ⟨k1, hk1⟩ := (encode_ev l).rounds
  obtain ⟨k2, hk2⟩ := (refencode_ev l).rounds
  obtain ⟨⟨X, Y⟩, hXY⟩ : ∃ p, encF l = p := ⟨_, rfl⟩
  rw [hXY] at hk1 hk2
  have HR := Aside0.mk hr
  have HK0 := Aside0.mk hk0
  have HK1 := Aside0.mk hk1
  have HK2 := Aside0.mk hk2
  obtain ⟨M, hM⟩ : ∃ M, decide (mayP ⟨x.f0, x.f1, x.f2⟩) = M := ⟨_, rfl⟩
  have HM1 : Aside0 (shim_May.f x.f0 x.f1 x.f2 = some M) := ⟨by rw [may_f, hM]⟩
  have HM2 : Aside0 (viaductref03_May.f x.f0 x.f1 x.f2 = some M) := ⟨by rw [refmay_f, hM]⟩
  obtain ⟨x0, x1, x2⟩ := x
  simp only at HM1 HM2
  show Calls Try.prog 3 #[.slice A l.length c, .agg #[.int .i64 x0, .int .i64 x1, .int .i64 x2]] w _
  clear hr hk0 hk1 hk2 hXY hM
  go_enter Try.func3, Try.ntmps3
  go_wp2_with ((with_reducible refine gate_dst (N := 3) rfl ?_); refine box_event ?hg (N := 3) ?hd (cs := #[.int .i64 x0, .int .i64 x1, .int .i64 x2]) (t := 24) ?hr ?_; (case hd => rfl); (case hg => rfl); (case hr => first | (go_simp; done) | (go_simp; rfl)); intro gb hg w1 hbox hb; have BK := Aside0.mk hbox; have HB := Aside0.mk hb; clear hb hbox hg)
  refine (viaductlaw03_alive.calls k0 true _ HK0.out).mono ?_
  rintro e w2 ⟨rfl, hb⟩
  replace BK := Aside0.mk (blk_below BK.out hb)
  replace HB := Aside0.mk (below_then HB.out HB.out.size hb)
  clear hb
  go_wp2_with fail
  refine (shim_Encode.calls k1 A c l X Y _ (Kd.C_below HR.out HB.out) hc HK1.out).mono ?_
  rintro e w3 ⟨v5, rfl, hv, hb⟩
  have HV5 := Aside0.mk hv
  replace BK := Aside0.mk (blk_below BK.out hb)
  replace HB := Aside0.mk (below_then HB.out HB.out.size hb)
  clear hv hb
  obtain ⟨A5, c5, e5⟩ := Kd.R_slice HV5.out
  subst e5
  go_wp2_with fail
  refine (viaductref03_Encode.calls k2 A c l X Y _ (Kd.C_below HR.out HB.out) hc HK2.out).mono ?_
  rintro e w4 ⟨v7, rfl, hv, hb⟩
  have HV7 := Aside0.mk hv
  have HV5' := Aside0.mk (Kd.R_below HV5.out hb)
  replace BK := Aside0.mk (blk_below BK.out hb)
  replace HB := Aside0.mk (below_then HB.out HB.out.size hb)
  clear hv hb HV5
  obtain ⟨A7, c7, e7⟩ := Kd.R_slice HV7.out
  subst e7
  go_wp2_with fail
  have HC5 := Aside0.mk (Kd.C_drew (Kd.R_reads' HV5'.out).2.2)
  have HC7 := Aside0.mk (Kd.C_drew (Kd.R_reads' HV7.out).2.2)
  replace BK := Aside0.mk (blk_below BK.out (below_drew (Below.refl _ _)))
  replace HB := Aside0.mk (below_drew HB.out)
  clear HV5' HV7 HK0 HK1 HK2
  refine start_ (n := 18) (S := fun w' => True) (ds := []) #[false, false, false, false, false, false, false, false, false, false, false, false, false, false, false, false, false, false] (by kernel_rfl) rfl rfl trivial (fun hHeld => ?_)
  refine with_tabW encs.tab7 encs.bits7 (fun HT_ HW_ => ?_)
  refine inv_at [0, 1, 2, 3, 4, 5, 6, 7, 8, 9, 10, 11, 12, 13, 14, 15, 16, 17] (fun a0_ b a w' => a = putSel a0_ b [(0, 24, .slice A5 X.length c5), (1, 25, .string (strOfNums X)), (2, 26, .slice A7 X.length c7), (3, 27, .string (strOfNums X)), (4, 28, .bool true), (5, 29, .bool true), (6, 30, .int .i64 Y), (7, 31, .int .i64 Y), (8, 32, .bool true), (9, 33, .bool true), (10, 34, .bool true), (11, 35, .agg #[.int .i64 x0, .int .i64 x1, .int .i64 x2]), (12, 36, .bool M), (13, 37, .agg #[.int .i64 x0, .int .i64 x1, .int .i64 x2]), (14, 38, .bool M), (15, 39, .bool true), (16, 40, .bool true), (17, 4, .bool true)] ∧ (Below w.heap.size w w') ∧ (w'.heap[gb]? = some (.cells #[.int .i64 x0, .int .i64 x1, .int .i64 x2] 24 (0, 0))) ∧ (Kd.C (Kd.int .u8) w' A5 X.length X) ∧ (Kd.C (Kd.int .u8) w' A7 X.length X)) HT_.out HW_.out (by kernel_rfl) (by kernel_rfl) ?_ ?_ ?_
  · exact ⟨by simp only [putSel, Bool.false_eq_true, if_false], HB.out, BK.out, HC5.out, HC7.out⟩
  · skip
    clear BK HB HC5 HC7
    refine steps_cons ?_ ?_
    · rintro b a w' ⟨ha, Q_HB, Q_BK, Q_HC5, Q_HC7⟩ hb_ hon hoff
      refine ⟨_, rfl, fun K hK => ?_⟩
      have e5 : a.tmps[5]? = some (.slice A5 X.length c5) := by rw [ha]; exact (putSel_off rfl).trans rfl
      replace ha := Aside0.mk ha
      have HB := Aside0.mk Q_HB
      have BK := Aside0.mk Q_BK
      have HC5 := Aside0.mk Q_HC5
      have HC7 := Aside0.mk Q_HC7
      refine value_ (w1 := w') (v := .slice A5 X.length c5) (by rfl) rfl ?_ ?_
      · go_simp
        (try simp only [i64_w])
        try rfl
        all_goals (try (unfold wrap64; omega))
      refine hK.out _ _ ⟨(by rw [ha.out]; exact putSel_upk 0 hb_ rfl rfl rfl), Q_HB, Q_BK, Q_HC5, Q_HC7⟩
    refine steps_cons ?_ ?_
    · rintro b a w' ⟨ha, Q_HB, Q_BK, Q_HC5, Q_HC7⟩ hb_ hon hoff
      refine ⟨_, rfl, fun K hK => ?_⟩
      have e24 : a.tmps[24]? = some (.slice A5 X.length c5) := by rw [ha]; exact putSel_on (e := (0, 24, .slice A5 X.length c5)) 0 rfl rfl (hon 0 (by kernel_rfl)) rfl
      replace ha := Aside0.mk ha
      have HB := Aside0.mk Q_HB
      have BK := Aside0.mk Q_BK
      have HC5 := Aside0.mk Q_HC5
      have HC7 := Aside0.mk Q_HC7
      have hcv_ := conv (c := c5) HC5.out
      refine value_ (w1 := w') (v := .string (strOfNums X)) (by rfl) rfl ?_ ?_
      · go_simp
        (try simp only [i64_w])
        try rfl
        all_goals (try (unfold wrap64; omega))
      refine hK.out _ _ ⟨(by rw [ha.out]; exact putSel_upk 1 hb_ rfl rfl rfl), Q_HB, Q_BK, Q_HC5, Q_HC7⟩
    refine steps_cons ?_ ?_
    · rintro b a w' ⟨ha, Q_HB, Q_BK, Q_HC5, Q_HC7⟩ hb_ hon hoff
      refine ⟨_, rfl, fun K hK => ?_⟩
      have e7 : a.tmps[7]? = some (.slice A7 X.length c7) := by rw [ha]; exact (putSel_off rfl).trans rfl
      replace ha := Aside0.mk ha
      have HB := Aside0.mk Q_HB
      have BK := Aside0.mk Q_BK
      have HC5 := Aside0.mk Q_HC5
      have HC7 := Aside0.mk Q_HC7
      refine value_ (w1 := w') (v := .slice A7 X.length c7) (by rfl) rfl ?_ ?_
      · go_simp
        (try simp only [i64_w])
        try rfl
        all_goals (try (unfold wrap64; omega))
      refine hK.out _ _ ⟨(by rw [ha.out]; exact putSel_upk 2 hb_ rfl rfl rfl), Q_HB, Q_BK, Q_HC5, Q_HC7⟩
    refine steps_cons ?_ ?_
    · rintro b a w' ⟨ha, Q_HB, Q_BK, Q_HC5, Q_HC7⟩ hb_ hon hoff
      refine ⟨_, rfl, fun K hK => ?_⟩
      have e26 : a.tmps[26]? = some (.slice A7 X.length c7) := by rw [ha]; exact putSel_on (e := (2, 26, .slice A7 X.length c7)) 2 rfl rfl (hon 2 (by kernel_rfl)) rfl
      replace ha := Aside0.mk ha
      have HB := Aside0.mk Q_HB
      have BK := Aside0.mk Q_BK
      have HC5 := Aside0.mk Q_HC5
      have HC7 := Aside0.mk Q_HC7
      have hcv_ := conv (c := c7) HC7.out
      refine value_ (w1 := w') (v := .string (strOfNums X)) (by rfl) rfl ?_ ?_
      · go_simp
        (try simp only [i64_w])
        try rfl
        all_goals (try (unfold wrap64; omega))
      refine hK.out _ _ ⟨(by rw [ha.out]; exact putSel_upk 3 hb_ rfl rfl rfl), Q_HB, Q_BK, Q_HC5, Q_HC7⟩
    refine steps_cons ?_ ?_
    · rintro b a w' ⟨ha, Q_HB, Q_BK, Q_HC5, Q_HC7⟩ hb_ hon hoff
      refine ⟨_, rfl, fun K hK => ?_⟩
      have e25 : a.tmps[25]? = some (.string (strOfNums X)) := by rw [ha]; exact putSel_on (e := (1, 25, .string (strOfNums X))) 1 rfl rfl (hon 1 (by kernel_rfl)) rfl
      have e27 : a.tmps[27]? = some (.string (strOfNums X)) := by rw [ha]; exact putSel_on (e := (3, 27, .string (strOfNums X))) 3 rfl rfl (hon 3 (by kernel_rfl)) rfl
      replace ha := Aside0.mk ha
      have HB := Aside0.mk Q_HB
      have BK := Aside0.mk Q_BK
      have HC5 := Aside0.mk Q_HC5
      have HC7 := Aside0.mk Q_HC7
      refine value_ (w1 := w') (v := .bool true) (by rfl) rfl ?_ ?_
      · go_simp
        (try simp only [i64_w])
        try rfl
        all_goals (try (unfold wrap64; omega))
      refine hK.out _ _ ⟨(by rw [ha.out]; exact putSel_upk 4 hb_ rfl rfl rfl), Q_HB, Q_BK, Q_HC5, Q_HC7⟩
    refine steps_cons ?_ ?_
    · rintro b a w' ⟨ha, Q_HB, Q_BK, Q_HC5, Q_HC7⟩ hb_ hon hoff
      refine ⟨_, rfl, fun K hK => ?_⟩
      have e28 : a.tmps[28]? = some (.bool true) := by rw [ha]; exact putSel_on (e := (4, 28, .bool true)) 4 rfl rfl (hon 4 (by kernel_rfl)) rfl
      replace ha := Aside0.mk ha
      have HB := Aside0.mk Q_HB
      have BK := Aside0.mk Q_BK
      have HC5 := Aside0.mk Q_HC5
      have HC7 := Aside0.mk Q_HC7
      refine value_ (w1 := w') (v := .bool true) (by rfl) rfl ?_ ?_
      · go_simp
        (try simp only [i64_w])
        try rfl
        all_goals (try (unfold wrap64; omega))
      refine hK.out _ _ ⟨(by rw [ha.out]; exact putSel_upk 5 hb_ rfl rfl rfl), Q_HB, Q_BK, Q_HC5, Q_HC7⟩
    refine steps_cons ?_ ?_
    · rintro b a w' ⟨ha, Q_HB, Q_BK, Q_HC5, Q_HC7⟩ hb_ hon hoff
      refine ⟨_, rfl, fun K hK => ?_⟩
      have e6 : a.tmps[6]? = some (.int .i64 Y) := by rw [ha]; exact (putSel_off rfl).trans rfl
      have e29 : a.tmps[29]? = some (.bool true) := by rw [ha]; exact putSel_on (e := (5, 29, .bool true)) 5 rfl rfl (hon 5 (by kernel_rfl)) rfl
      replace ha := Aside0.mk ha
      have HB := Aside0.mk Q_HB
      have BK := Aside0.mk Q_BK
      have HC5 := Aside0.mk Q_HC5
      have HC7 := Aside0.mk Q_HC7
      refine value_ (w1 := w') (v := .int .i64 Y) (wanted_on rfl rfl rfl (e29.trans (by first | rfl | (simp [*]; done)))) rfl ?_ ?_
      · go_simp
        (try simp only [i64_w])
        try rfl
        all_goals (try (unfold wrap64; omega))
      refine hK.out _ _ ⟨(by rw [ha.out]; exact putSel_upk 6 hb_ rfl rfl rfl), Q_HB, Q_BK, Q_HC5, Q_HC7⟩
    refine steps_cons ?_ ?_
    · rintro b a w' ⟨ha, Q_HB, Q_BK, Q_HC5, Q_HC7⟩ hb_ hon hoff
      refine ⟨_, rfl, fun K hK => ?_⟩
      have e8 : a.tmps[8]? = some (.int .i64 Y) := by rw [ha]; exact (putSel_off rfl).trans rfl
      have e29 : a.tmps[29]? = some (.bool true) := by rw [ha]; exact putSel_on (e := (5, 29, .bool true)) 5 rfl rfl (hon 5 (by kernel_rfl)) rfl
      replace ha := Aside0.mk ha
      have HB := Aside0.mk Q_HB
      have BK := Aside0.mk Q_BK
      have HC5 := Aside0.mk Q_HC5
      have HC7 := Aside0.mk Q_HC7
      refine value_ (w1 := w') (v := .int .i64 Y) (wanted_on rfl rfl rfl (e29.trans (by first | rfl | (simp [*]; done)))) rfl ?_ ?_
      · go_simp
        (try simp only [i64_w])
        try rfl
        all_goals (try (unfold wrap64; omega))
      refine hK.out _ _ ⟨(by rw [ha.out]; exact putSel_upk 7 hb_ rfl rfl rfl), Q_HB, Q_BK, Q_HC5, Q_HC7⟩
    refine steps_cons ?_ ?_
    · rintro b a w' ⟨ha, Q_HB, Q_BK, Q_HC5, Q_HC7⟩ hb_ hon hoff
      refine ⟨_, rfl, fun K hK => ?_⟩
      have e30 : a.tmps[30]? = some (.int .i64 Y) := by rw [ha]; exact putSel_on (e := (6, 30, .int .i64 Y)) 6 rfl rfl (hon 6 (by kernel_rfl)) rfl
      have e31 : a.tmps[31]? = some (.int .i64 Y) := by rw [ha]; exact putSel_on (e := (7, 31, .int .i64 Y)) 7 rfl rfl (hon 7 (by kernel_rfl)) rfl
      have e29 : a.tmps[29]? = some (.bool true) := by rw [ha]; exact putSel_on (e := (5, 29, .bool true)) 5 rfl rfl (hon 5 (by kernel_rfl)) rfl
      replace ha := Aside0.mk ha
      have HB := Aside0.mk Q_HB
      have BK := Aside0.mk Q_BK
      have HC5 := Aside0.mk Q_HC5
      have HC7 := Aside0.mk Q_HC7
      refine value_ (w1 := w') (v := .bool true) (wanted_on rfl rfl rfl (e29.trans (by first | rfl | (simp [*]; done)))) rfl ?_ ?_
      · go_simp
        (try simp only [i64_w])
        try rfl
        all_goals (try (unfold wrap64; omega))
      refine hK.out _ _ ⟨(by rw [ha.out]; exact putSel_upk 8 hb_ rfl rfl rfl), Q_HB, Q_BK, Q_HC5, Q_HC7⟩
    refine steps_cons ?_ ?_
    · rintro b a w' ⟨ha, Q_HB, Q_BK, Q_HC5, Q_HC7⟩ hb_ hon hoff
      refine ⟨_, rfl, fun K hK => ?_⟩
      have e29 : a.tmps[29]? = some (.bool true) := by rw [ha]; exact putSel_on (e := (5, 29, .bool true)) 5 rfl rfl (hon 5 (by kernel_rfl)) rfl
      have e32 : a.tmps[32]? = some (.bool true) := by rw [ha]; exact putSel_on (e := (8, 32, .bool true)) 8 rfl rfl (hon 8 (by kernel_rfl)) rfl
      replace ha := Aside0.mk ha
      have HB := Aside0.mk Q_HB
      have BK := Aside0.mk Q_BK
      have HC5 := Aside0.mk Q_HC5
      have HC7 := Aside0.mk Q_HC7
      refine value_ (w1 := w') (v := .bool true) (by rfl) rfl ?_ ?_
      · go_simp
        (try simp only [i64_w])
        try rfl
        all_goals (try (unfold wrap64; omega))
      refine hK.out _ _ ⟨(by rw [ha.out]; exact putSel_upk 9 hb_ rfl rfl rfl), Q_HB, Q_BK, Q_HC5, Q_HC7⟩
    refine steps_cons ?_ ?_
    · rintro b a w' ⟨ha, Q_HB, Q_BK, Q_HC5, Q_HC7⟩ hb_ hon hoff
      refine ⟨_, rfl, fun K hK => ?_⟩
      have e33 : a.tmps[33]? = some (.bool true) := by rw [ha]; exact putSel_on (e := (9, 33, .bool true)) 9 rfl rfl (hon 9 (by kernel_rfl)) rfl
      replace ha := Aside0.mk ha
      have HB := Aside0.mk Q_HB
      have BK := Aside0.mk Q_BK
      have HC5 := Aside0.mk Q_HC5
      have HC7 := Aside0.mk Q_HC7
      refine value_ (w1 := w') (v := .bool true) (by rfl) rfl ?_ ?_
      · go_simp
        (try simp only [i64_w])
        try rfl
        all_goals (try (unfold wrap64; omega))
      refine hK.out _ _ ⟨(by rw [ha.out]; exact putSel_upk 10 hb_ rfl rfl rfl), Q_HB, Q_BK, Q_HC5, Q_HC7⟩
    refine steps_cons ?_ ?_
    · rintro b a w' ⟨ha, Q_HB, Q_BK, Q_HC5, Q_HC7⟩ hb_ hon hoff
      refine ⟨_, rfl, fun K hK => ?_⟩
      have e3 : a.tmps[3]? = some (.pointer (some ⟨gb, 0, none⟩)) := by rw [ha]; exact (putSel_off rfl).trans rfl
      have e34 : a.tmps[34]? = some (.bool true) := by rw [ha]; exact putSel_on (e := (10, 34, .bool true)) 10 rfl rfl (hon 10 (by kernel_rfl)) rfl
      replace ha := Aside0.mk ha
      have HB := Aside0.mk Q_HB
      have BK := Aside0.mk Q_BK
      have HC5 := Aside0.mk Q_HC5
      have HC7 := Aside0.mk Q_HC7
      have hc0_ : w'.cell? ⟨gb, 0, none⟩ = some (.int .i64 x0) := (blk_cell BK.out 0).trans rfl
      have hc1_ : w'.cell? ⟨gb, 1, none⟩ = some (.int .i64 x1) := (blk_cell BK.out 1).trans rfl
      have hc2_ : w'.cell? ⟨gb, 2, none⟩ = some (.int .i64 x2) := (blk_cell BK.out 2).trans rfl
      refine value_ (w1 := w') (v := .agg #[.int .i64 x0, .int .i64 x1, .int .i64 x2]) (wanted_on rfl rfl rfl (e34.trans (by first | rfl | (simp [*]; done)))) rfl ?_ ?_
      · go_simp
        (try simp only [i64_w])
        try rfl
        all_goals (try (unfold wrap64; omega))
      refine hK.out _ _ ⟨(by rw [ha.out]; exact putSel_upk 11 hb_ rfl rfl rfl), Q_HB, Q_BK, Q_HC5, Q_HC7⟩
    refine steps_cons ?_ ?_
    · rintro b a w' ⟨ha, Q_HB, Q_BK, Q_HC5, Q_HC7⟩ hb_ hon hoff
      refine ⟨_, rfl, fun K hK => ?_⟩
      have e35 : a.tmps[35]? = some (.agg #[.int .i64 x0, .int .i64 x1, .int .i64 x2]) := by rw [ha]; exact putSel_on (e := (11, 35, .agg #[.int .i64 x0, .int .i64 x1, .int .i64 x2])) 11 rfl rfl (hon 11 (by kernel_rfl)) rfl
      have e34 : a.tmps[34]? = some (.bool true) := by rw [ha]; exact putSel_on (e := (10, 34, .bool true)) 10 rfl rfl (hon 10 (by kernel_rfl)) rfl
      replace ha := Aside0.mk ha
      have HB := Aside0.mk Q_HB
      have BK := Aside0.mk Q_BK
      have HC5 := Aside0.mk Q_HC5
      have HC7 := Aside0.mk Q_HC7
      refine goes_ Try.func12 (by kernel_rfl) rfl #[.agg #[.int .i64 x0, .int .i64 x1, .int .i64 x2]] (wanted_on rfl rfl rfl (e34.trans (by first | rfl | (simp [*]; done)))) rfl rfl (by first | (simp only [List.map_toArray, List.map_cons, List.map_nil, Act.eval, Array.getD_eq_getD_getElem?, Option.getD_some, e35, e34]; done) | (simp only [List.map_toArray, List.map_cons, List.map_nil, Act.eval, Array.getD_eq_getD_getElem?, Option.getD_some, e35, e34]; rfl)) ?_
      refine (shim_May.calls x0 x1 x2 M _ HM1.out).mono ?_
      rintro e w2_ ⟨rfl, hb⟩
      refine ⟨_, rfl, ?_⟩
      refine hK.out _ _ ⟨(by rw [ha.out]; exact putSel_upk 12 hb_ rfl rfl rfl), below_then HB.out HB.out.size hb, blk_below BK.out hb, Kd.C_below HC5.out hb, Kd.C_below HC7.out hb⟩
    refine steps_cons ?_ ?_
    · rintro b a w' ⟨ha, Q_HB, Q_BK, Q_HC5, Q_HC7⟩ hb_ hon hoff
      refine ⟨_, rfl, fun K hK => ?_⟩
      have e3 : a.tmps[3]? = some (.pointer (some ⟨gb, 0, none⟩)) := by rw [ha]; exact (putSel_off rfl).trans rfl
      have e34 : a.tmps[34]? = some (.bool true) := by rw [ha]; exact putSel_on (e := (10, 34, .bool true)) 10 rfl rfl (hon 10 (by kernel_rfl)) rfl
      replace ha := Aside0.mk ha
      have HB := Aside0.mk Q_HB
      have BK := Aside0.mk Q_BK
      have HC5 := Aside0.mk Q_HC5
      have HC7 := Aside0.mk Q_HC7
      have hc0_ : w'.cell? ⟨gb, 0, none⟩ = some (.int .i64 x0) := (blk_cell BK.out 0).trans rfl
      have hc1_ : w'.cell? ⟨gb, 1, none⟩ = some (.int .i64 x1) := (blk_cell BK.out 1).trans rfl
      have hc2_ : w'.cell? ⟨gb, 2, none⟩ = some (.int .i64 x2) := (blk_cell BK.out 2).trans rfl
      refine value_ (w1 := w') (v := .agg #[.int .i64 x0, .int .i64 x1, .int .i64 x2]) (wanted_on rfl rfl rfl (e34.trans (by first | rfl | (simp [*]; done)))) rfl ?_ ?_
      · go_simp
        (try simp only [i64_w])
        try rfl
        all_goals (try (unfold wrap64; omega))
      refine hK.out _ _ ⟨(by rw [ha.out]; exact putSel_upk 13 hb_ rfl rfl rfl), Q_HB, Q_BK, Q_HC5, Q_HC7⟩
    refine steps_cons ?_ ?_
    · rintro b a w' ⟨ha, Q_HB, Q_BK, Q_HC5, Q_HC7⟩ hb_ hon hoff
      refine ⟨_, rfl, fun K hK => ?_⟩
      have e37 : a.tmps[37]? = some (.agg #[.int .i64 x0, .int .i64 x1, .int .i64 x2]) := by rw [ha]; exact putSel_on (e := (13, 37, .agg #[.int .i64 x0, .int .i64 x1, .int .i64 x2])) 13 rfl rfl (hon 13 (by kernel_rfl)) rfl
      have e34 : a.tmps[34]? = some (.bool true) := by rw [ha]; exact putSel_on (e := (10, 34, .bool true)) 10 rfl rfl (hon 10 (by kernel_rfl)) rfl
      replace ha := Aside0.mk ha
      have HB := Aside0.mk Q_HB
      have BK := Aside0.mk Q_BK
      have HC5 := Aside0.mk Q_HC5
      have HC7 := Aside0.mk Q_HC7
      refine goes_ Try.func13 (by kernel_rfl) rfl #[.agg #[.int .i64 x0, .int .i64 x1, .int .i64 x2]] (wanted_on rfl rfl rfl (e34.trans (by first | rfl | (simp [*]; done)))) rfl rfl (by first | (simp only [List.map_toArray, List.map_cons, List.map_nil, Act.eval, Array.getD_eq_getD_getElem?, Option.getD_some, e37, e34]; done) | (simp only [List.map_toArray, List.map_cons, List.map_nil, Act.eval, Array.getD_eq_getD_getElem?, Option.getD_some, e37, e34]; rfl)) ?_
      refine (viaductref03_May.calls x0 x1 x2 M _ HM2.out).mono ?_
      rintro e w2_ ⟨rfl, hb⟩
      refine ⟨_, rfl, ?_⟩
      refine hK.out _ _ ⟨(by rw [ha.out]; exact putSel_upk 14 hb_ rfl rfl rfl), below_then HB.out HB.out.size hb, blk_below BK.out hb, Kd.C_below HC5.out hb, Kd.C_below HC7.out hb⟩
    refine steps_cons ?_ ?_
    · rintro b a w' ⟨ha, Q_HB, Q_BK, Q_HC5, Q_HC7⟩ hb_ hon hoff
      refine ⟨_, rfl, fun K hK => ?_⟩
      have e36 : a.tmps[36]? = some (.bool M) := by rw [ha]; exact putSel_on (e := (12, 36, .bool M)) 12 rfl rfl (hon 12 (by kernel_rfl)) rfl
      have e38 : a.tmps[38]? = some (.bool M) := by rw [ha]; exact putSel_on (e := (14, 38, .bool M)) 14 rfl rfl (hon 14 (by kernel_rfl)) rfl
      have e34 : a.tmps[34]? = some (.bool true) := by rw [ha]; exact putSel_on (e := (10, 34, .bool true)) 10 rfl rfl (hon 10 (by kernel_rfl)) rfl
      replace ha := Aside0.mk ha
      have HB := Aside0.mk Q_HB
      have BK := Aside0.mk Q_BK
      have HC5 := Aside0.mk Q_HC5
      have HC7 := Aside0.mk Q_HC7
      refine value_ (w1 := w') (v := .bool true) (wanted_on rfl rfl rfl (e34.trans (by first | rfl | (simp [*]; done)))) rfl ?_ ?_
      · go_simp
        (try simp only [i64_w])
        try rfl
        all_goals (try (unfold wrap64; omega))
      refine hK.out _ _ ⟨(by rw [ha.out]; exact putSel_upk 15 hb_ rfl rfl rfl), Q_HB, Q_BK, Q_HC5, Q_HC7⟩
    refine steps_cons ?_ ?_
    · rintro b a w' ⟨ha, Q_HB, Q_BK, Q_HC5, Q_HC7⟩ hb_ hon hoff
      refine ⟨_, rfl, fun K hK => ?_⟩
      have e34 : a.tmps[34]? = some (.bool true) := by rw [ha]; exact putSel_on (e := (10, 34, .bool true)) 10 rfl rfl (hon 10 (by kernel_rfl)) rfl
      have e39 : a.tmps[39]? = some (.bool true) := by rw [ha]; exact putSel_on (e := (15, 39, .bool true)) 15 rfl rfl (hon 15 (by kernel_rfl)) rfl
      replace ha := Aside0.mk ha
      have HB := Aside0.mk Q_HB
      have BK := Aside0.mk Q_BK
      have HC5 := Aside0.mk Q_HC5
      have HC7 := Aside0.mk Q_HC7
      refine value_ (w1 := w') (v := .bool true) (by rfl) rfl ?_ ?_
      · go_simp
        (try simp only [i64_w])
        try rfl
        all_goals (try (unfold wrap64; omega))
      refine hK.out _ _ ⟨(by rw [ha.out]; exact putSel_upk 16 hb_ rfl rfl rfl), Q_HB, Q_BK, Q_HC5, Q_HC7⟩
    refine steps_cons ?_ ?_
    · rintro b a w' ⟨ha, Q_HB, Q_BK, Q_HC5, Q_HC7⟩ hb_ hon hoff
      refine ⟨_, rfl, fun K hK => ?_⟩
      have e40 : a.tmps[40]? = some (.bool true) := by rw [ha]; exact putSel_on (e := (16, 40, .bool true)) 16 rfl rfl (hon 16 (by kernel_rfl)) rfl
      replace ha := Aside0.mk ha
      have HB := Aside0.mk Q_HB
      have BK := Aside0.mk Q_BK
      have HC5 := Aside0.mk Q_HC5
      have HC7 := Aside0.mk Q_HC7
      refine value_ (w1 := w') (v := .bool true) (by rfl) rfl ?_ ?_
      · go_simp
        (try simp only [i64_w])
        try rfl
        all_goals (try (unfold wrap64; omega))
      refine hK.out _ _ ⟨(by rw [ha.out]; exact putSel_upk 17 hb_ rfl rfl rfl), Q_HB, Q_BK, Q_HC5, Q_HC7⟩
    exact steps_nil
  rintro b a w6 hall ⟨ha, Q_HB, Q_BK, Q_HC5, Q_HC7⟩
  clear BK HB HC5 HC7
  have hb0_ := hall 0 (by kernel_rfl)
  have hb1_ := hall 1 (by kernel_rfl)
  have hb2_ := hall 2 (by kernel_rfl)
  have hb3_ := hall 3 (by kernel_rfl)
  have hb4_ := hall 4 (by kernel_rfl)
  have hb5_ := hall 5 (by kernel_rfl)
  have hb6_ := hall 6 (by kernel_rfl)
  have hb7_ := hall 7 (by kernel_rfl)
  have hb8_ := hall 8 (by kernel_rfl)
  have hb9_ := hall 9 (by kernel_rfl)
  have hb10_ := hall 10 (by kernel_rfl)
  have hb11_ := hall 11 (by kernel_rfl)
  have hb12_ := hall 12 (by kernel_rfl)
  have hb13_ := hall 13 (by kernel_rfl)
  have hb14_ := hall 14 (by kernel_rfl)
  have hb15_ := hall 15 (by kernel_rfl)
  have hb16_ := hall 16 (by kernel_rfl)
  have hb17_ := hall 17 (by kernel_rfl)
  subst ha
  simp only [putSel, hb0_, hb1_, hb2_, hb3_, hb4_, hb5_, hb6_, hb7_, hb8_, hb9_, hb10_, hb11_, hb12_, hb13_, hb14_, hb15_, hb16_, hb17_, if_true, Act.put, List.setIfInBounds_toArray, List.set_cons_zero, List.set_cons_succ]
  have HB := Aside0.mk Q_HB
  clear Q_HB
  have BK := Aside0.mk Q_BK
  clear Q_BK
  have HC5 := Aside0.mk Q_HC5
  clear Q_HC5
  have HC7 := Aside0.mk Q_HC7
  clear Q_HC7
  clear hall hb0_ hb1_ hb2_ hb3_ hb4_ hb5_ hb6_ hb7_ hb8_ hb9_ hb10_ hb11_ hb12_ hb13_ hb14_ hb15_ hb16_ hb17_
  go_wp2_with fail
  go_ret
  exact ⟨rfl, HB.out⟩

theorem encodes_big {w : World} {A : Option Addr} {c len : Nat} (x0 x1 x2 : Int) (hm : len ≤ maxLen) (hl : ¬ len ≤ 4096) :
    Calls Try.prog 3 #[.slice A len c, .agg #[.int .i64 x0, .int .i64 x1, .int .i64 x2]] w fun e w' => e = .returned (.bool true) ∧ Below w.heap.size w w' := by
  unfold maxLen at hm
  obtain ⟨k0, hk0⟩ := alive03.rounds
  have HK0 := Aside0.mk hk0
  clear hk0
  go_enter Try.func3, Try.ntmps3
  go_wp2_with ((with_reducible refine gate_dst (N := 3) rfl ?_); refine box_event ?hg (N := 3) ?hd (cs := #[.int .i64 x0, .int .i64 x1, .int .i64 x2]) (t := 24) ?hr ?_; (case hd => rfl); (case hg => rfl); (case hr => first | (go_simp; done) | (go_simp; rfl)); intro gb hg w1 hbox hb; have BK := Aside0.mk hbox; have HB := Aside0.mk hb; clear hb hbox hg)
  refine (viaductlaw03_alive.calls k0 true _ HK0.out).mono ?_
  rintro e w2 ⟨rfl, hb⟩
  replace HB := Aside0.mk (below_then HB.out HB.out.size hb)
  clear hb
  go_wp2
  go_ret
  exact ⟨rfl, HB.out⟩

theorem encodes_walk (A : Option Addr) (c : Nat) (l : List S24) (x : S24) (w : World) (hC : Kd.C k24 w A l.length l) (hc : l.length ≤ c) (hm : c ≤ maxLen) (hw : ∀ y ∈ l, (Lit.int .i64 y.f0).wf = true ∧ (Lit.int .i64 y.f1).wf = true ∧ (Lit.int .i64 y.f2).wf = true) (hx : (Lit.int .i64 x.f0).wf = true ∧ (Lit.int .i64 x.f1).wf = true ∧ (Lit.int .i64 x.f2).wf = true) :
    Calls Try.prog 3 #[.slice A l.length c, .agg #[.int .i64 x.f0, .int .i64 x.f1, .int .i64 x.f2]] w fun e w' => e = .returned (.bool true) ∧ Below w.heap.size w w' := by
  by_cases hl : l.length ≤ 4096
  · exact encodes_small x hC hc hl
  · exact encodes_big x.f0 x.f1 x.f2 (Nat.le_trans hc hm) hl
end Go.Proofs.Ytppdmaeoipeefaa.Walk
