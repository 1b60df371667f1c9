/- The reference's Uint, whose bytes are only read. -/
import Derived.Test.YtkjfemkmooepnaaRefCalls
import Derived.Deep.RegionWith
namespace Go.Proofs.Ytkjfemkmooepnaa.Walk
open Go.RowKit Go.Proofs.YtkjfemkmooepnaaW.PrintWords Go.Proofs.YtkjfemkmooepnaaW.PrintLast Go.Proofs.YtkjfemkmooepnaaW.PrintMore Go.Proofs.Ytkjfemkmooepnaa.Oct Go.Proofs.Ytkjfemkmooepnaa.Ref Go.Proofs.Ytkjfemkmooepnaa.Q
set_option linter.unusedVariables false
set_option linter.unusedSimpArgs false

theorem takeO_bytes {l : List Int} (hb : Bytes l) (er n : Int) : Bytes (takeO l er n (ub n)) ∧ (takeO l er n (ub n)).length ≤ 8 := by
  unfold takeO
  split
  · rename_i h
    refine ⟨hb.take _, ?_⟩
    have h2 := h.2.1
    simp only [ub, Bool.and_eq_true, decide_eq_true_eq] at h2
    rw [List.length_take]
    omega
  · exact ⟨fun x hx => by simp at hx, by simp⟩
def ruint.T2 : Bool × List (List Nat × List Nat) := (true, [([], []), ([], []), ([1], [1]), ([0, 2, 0], [0]), ([2, 3, 0, 1, 2, 3], [2])])
def ruint.B2 : List Nat := [0, 0, 2, 7, 15]
theorem ruint.tab2 : rtab .any (opsOf Try.f20 2) = ruint.T2 := by kernel_rfl
theorem ruint.bits2 : waitsOk ruint.T2.2 ruint.B2 = true := by kernel_rfl
set_option maxRecDepth 20000 in
set_option maxHeartbeats 2000000 in
theorem ruint {w : World} {B : Option Addr} {c : Nat} {l : List Int} (hr : Kd.C (Kd.int .u8) w B l.length l) (hc : l.length ≤ c) (hl : l.length ≤ 4096) (at_ : Nat) (hat : at_ ≤ l.length) (er n : Int) (hB : Bytes l) :
    Calls Try.prog 20 #[.agg #[.slice B l.length c, .int .i64 (at_ : Int), .int .i64 er], .int .i64 n] w fun e w' => ∃  (at2 : Nat), e = .returned (.tuple #[.agg #[.slice B l.length c, .int .i64 (at2 : Int), .int .i64 (takeE (l.drop at_) er n (ub n))], .int .u64 (uintF (takeO (l.drop at_) er n (ub n)))]) ∧ at2 ≤ l.length ∧ l.drop at2 = takeL (l.drop at_) er n (ub n) ∧ True ∧ Below w.heap.size w w' := by
  have HR := Aside0.mk hr
  obtain ⟨hO1, hO2⟩ := takeO_bytes (hB.drop at_) er n
  obtain ⟨kk, hkk⟩ := (number_ev _ hO1 hO2).rounds
  have hxu := uintF_numB _ hO1 hO2 _ (Nat.le_refl _)
  rw [List.take_length] at hxu
  rw [hxu]
  have htk := fun (W : World) (hW : Kd.C (Kd.int .u8) W B l.length l) => rtake_any hW hc hl at_ hat er n 1 8 (by decide) (ub n) rfl
  clear hr hxu hO1 hO2 hB
  generalize takeE (l.drop at_) er n (ub n) = E at *
  generalize takeL (l.drop at_) er n (ub n) = L at *
  generalize takeO (l.drop at_) er n (ub n) = O at *
  generalize numB O = x at *
  have HTK := Aside0.mk htk
  have HKK := Aside0.mk hkk
  clear htk hkk
  go_enter Try.func20, Try.ntmps20
  go_wp2_with (first | ((with_reducible refine gate_dst (N := 2) rfl ?_); refine box_event ?hg (N := 2) ?hd (cs := #[.slice B l.length c, .int .i64 (at_ : Int), .int .i64 er]) (t := 43) ?hr ?_; (case hd => rfl); (case hg => rfl); (case hr => first | (go_simp; done) | (go_simp; rfl)); intro g2 hg w1 hbox hb; have B2 := Aside0.mk hbox; have HB1 := Aside0.mk hb; have HG2 := Aside0.mk (Nat.le_of_eq hg.symm); clear hb hbox hg) | ((with_reducible refine gate_dst (N := 4) rfl ?_); refine box_event ?hg (N := 4) ?hd (cs := #[.slice none 0 0, .int .i64 0, .int .i64 0]) (t := 43) ?hr ?_; (case hd => rfl); (case hg => rfl); (case hr => first | (go_simp; done) | (go_simp; rfl)); intro g4 hg w2 hbox hb; have B4 := Aside0.mk hbox; have hne : g2 ≠ g4 := (by have := blk_lt B2.out; omega); have hne2 : g4 ≠ g2 := (fun e => hne e.symm); have B2' := Aside0.mk (blk_below B2.out hb); have HB2 := Aside0.mk (below_then HB1.out HB1.out.size hb); have HG4 := Aside0.mk (show w.heap.size ≤ g4 from by have := HB1.out.size; omega); clear B2 HB1 hb hbox hg; have B2 := B2'; clear B2'; have aq0_ : w2.cell? ⟨g2, 0, none⟩ = some (.slice B l.length c) := (blk_cell B2.out 0).trans rfl; have af0_ := blk_frozen B2.out 0; have aq1_ : w2.cell? ⟨g2, 1, none⟩ = some (.int .i64 (at_ : Int)) := (blk_cell B2.out 1).trans rfl; have af1_ := blk_frozen B2.out 1; have aq2_ : w2.cell? ⟨g2, 2, none⟩ = some (.int .i64 er) := (blk_cell B2.out 2).trans rfl; have af2_ := blk_frozen B2.out 2; have zq0_ : w2.cell? ⟨g4, 0, none⟩ = some (.slice none 0 0) := (blk_cell B4.out 0).trans rfl; have zf0_ := blk_frozen B4.out 0; have zq1_ : w2.cell? ⟨g4, 1, none⟩ = some (.int .i64 0) := (blk_cell B4.out 1).trans rfl; have zf1_ := blk_frozen B4.out 1; have zq2_ : w2.cell? ⟨g4, 2, none⟩ = some (.int .i64 0) := (blk_cell B4.out 2).trans rfl; have zf2_ := blk_frozen B4.out 2))
  clear aq0_ aq1_ aq2_ af0_ af1_ af2_ zq0_ zq1_ zq2_ zf0_ zf1_ zf2_
  refine (HTK.out w2 (Kd.C_below HR.out HB2.out)).mono ?_
  rintro e w3 ⟨v, at2, rfl, h1', h2', hv, hb⟩
  obtain ⟨A7, c7, e7⟩ := Kd.R_slice hv
  subst e7
  have HC7 := Aside0.mk (Kd.R_reads' hv).2.2
  have hc7 := (Kd.R_reads' hv).2.1
  replace B4 := Aside0.mk (blk_below B4.out hb)
  replace HB2 := Aside0.mk (below_then HB2.out HB2.out.size hb)
  clear hv hb
  go_wp2_with (first | ((with_reducible refine gate_dst (N := 6) rfl ?_); refine box_event ?hg (N := 6) ?hd (cs := #[.slice none 0 0, .int .i64 0, .int .i64 0]) (t := 43) ?hr ?_; (case hd => rfl); (case hg => rfl); (case hr => first | (go_simp; done) | (go_simp; rfl)); intro g6 hg w4 hbox hb; have B6 := Aside0.mk hbox; have HB34 := Aside0.mk hb; have HG6 := Aside0.mk (Nat.le_of_eq hg.symm); have hne6 : g4 ≠ g6 := (by have := blk_lt B4.out; omega); have HB2s := Aside0.mk HB2.out.size; clear hb hbox hg; have bq0_ : w4.cell? ⟨g6, 0, none⟩ = some (.slice none 0 0) := (blk_cell B6.out 0).trans rfl; have bf0_ := blk_frozen B6.out 0; have bq1_ : w4.cell? ⟨g6, 1, none⟩ = some (.int .i64 0) := (blk_cell B6.out 1).trans rfl; have bf1_ := blk_frozen B6.out 1; have bq2_ : w4.cell? ⟨g6, 2, none⟩ = some (.int .i64 0) := (blk_cell B6.out 2).trans rfl; have bf2_ := blk_frozen B6.out 2) | ((with_reducible refine gate_store (t := 43) (p := 6) rfl ?_); refine store_event (t := 43) (p := 6) (v := .tmp 12) (w1 := ((w4.setCell ⟨g6, 0, none⟩ (.slice B l.length c)).setCell ⟨g6, 1, none⟩ (.int .i64 (at2 : Int))).setCell ⟨g6, 2, none⟩ (.int .i64 E)) ?hg ?ho ?hn ?hr ?_; (case ho => rfl); (case hg => rfl); (case hn => rfl); (case hr => first | (go_simp; done) | (go_simp; rfl)); intro w5 hw5; clear bq0_ bq1_ bq2_ bf0_ bf1_ bf2_; have hb35 : Below w3.heap.size w3 w5 := (by rw [hw5]; exact below_put3 _ _ _ HB34.out HB34.out.size HG6.out); have BN6 : Aside0 (w5.heap[g6]? = some (.cells #[.slice B l.length c, .int .i64 (at2 : Int), .int .i64 E] 43 (0, 0))) := (by rw [hw5]; exact ⟨put3 _ _ _ B6.out⟩); have BN4 := Aside0.mk (blk_below B4.out hb35); have HC75 := Aside0.mk (Kd.C_below HC7.out hb35); have HB5 := Aside0.mk (below_then HB2.out HB2.out.size hb35); clear B6 B4 HC7 HB2 hw5 hb35 HB34))
  have HB := Aside0.mk (below_drew HB5.out)
  have HC := Aside0.mk (Kd.C_drew HC75.out)
  have hbd : Below w5.heap.size w5 w5.drew := below_drew (Below.refl _ _)
  have B4 := Aside0.mk (blk_below BN4.out hbd)
  have B6 := Aside0.mk (blk_below BN6.out hbd)
  clear HB5 HC75 BN4 BN6 hbd
  refine start_ (n := 5) (S := fun w' => True) (ds := []) #[false, false, false, false, false] (by kernel_rfl) rfl rfl trivial (fun hHeld => ?_)
  refine with_tabW ruint.tab2 ruint.bits2 (fun HT_ HW_ => ?_)
  refine inv_at [0, 1, 2, 3, 4] (fun a0_ b a w' => a = putSel a0_ b [(0, 14, .agg #[.slice B l.length c, .int .i64 (at2 : Int), .int .i64 E]), (1, 15, .slice A7 O.length c7), (2, 16, .int .u64 x), (4, 5, .int .u64 x)] ∧ (Below w.heap.size w w') ∧ (b 3 = false → Kd.C (Kd.int .u8) w' A7 O.length O) ∧ (b 3 = false → w'.heap[g4]? = some (.cells #[.slice none 0 0, .int .i64 0, .int .i64 0] 43 (0, 0))) ∧ (b 3 = false → w'.heap[g6]? = some (.cells #[.slice B l.length c, .int .i64 (at2 : Int), .int .i64 E] 43 (0, 0))) ∧ (b 3 = true → w'.heap[g4]? = some (.cells #[.slice B l.length c, .int .i64 (at2 : Int), .int .i64 E] 43 (0, 0)))) HT_.out HW_.out (by kernel_rfl) (by kernel_rfl) ?_ ?_ ?_
  · exact ⟨by simp only [putSel, Bool.false_eq_true, if_false], HB.out, fun _ => HC.out, fun _ => B4.out, fun _ => B6.out, fun h_ => absurd h_ (by decide)⟩
  · skip
    clear B4 B6 HB HC
    refine steps_cons ?_ ?_
    · rintro b a w' ⟨ha, Q_HB, Q_HC, Q_B4, Q_B6, Q_BR⟩ hb_ hon hoff
      refine ⟨_, rfl, fun K hK => ?_⟩
      have e6 : a.tmps[6]? = some (.pointer (some ⟨g6, 0, none⟩)) := by rw [ha]; exact (putSel_off rfl).trans rfl
      replace ha := Aside0.mk ha
      have HB := Aside0.mk Q_HB
      have HC := Aside0.mk (Q_HC (hoff 3 (by kernel_rfl)))
      have B4 := Aside0.mk (Q_B4 (hoff 3 (by kernel_rfl)))
      have B6 := Aside0.mk (Q_B6 (hoff 3 (by kernel_rfl)))
      have hc0_ : w'.cell? ⟨g6, 0, none⟩ = some (.slice B l.length c) := (blk_cell B6.out 0).trans rfl
      have hc1_ : w'.cell? ⟨g6, 1, none⟩ = some (.int .i64 (at2 : Int)) := (blk_cell B6.out 1).trans rfl
      have hc2_ : w'.cell? ⟨g6, 2, none⟩ = some (.int .i64 E) := (blk_cell B6.out 2).trans rfl
      refine value_ (w1 := w') (v := .agg #[.slice B l.length c, .int .i64 (at2 : Int), .int .i64 E]) (by rfl) rfl ?_ ?_
      · go_simp
        (try simp only [i64_w])
        try rfl
        all_goals (try (unfold wrap64; omega))
      refine hK.out _ _ ⟨(by rw [ha.out]; exact putSel_upk 0 hb_ rfl rfl rfl), Q_HB, Q_HC, Q_B4, Q_B6, fun h0_ => absurd ((hoff 3 (by kernel_rfl)).symm.trans h0_) (by decide)⟩
    refine steps_cons ?_ ?_
    · rintro b a w' ⟨ha, Q_HB, Q_HC, Q_B4, Q_B6, Q_BR⟩ hb_ hon hoff
      refine ⟨_, rfl, fun K hK => ?_⟩
      have e7 : a.tmps[7]? = some (.slice A7 O.length c7) := by rw [ha]; exact (putSel_off rfl).trans rfl
      replace ha := Aside0.mk ha
      have HB := Aside0.mk Q_HB
      have HC := Aside0.mk (Q_HC (hoff 3 (by kernel_rfl)))
      have B4 := Aside0.mk (Q_B4 (hoff 3 (by kernel_rfl)))
      have B6 := Aside0.mk (Q_B6 (hoff 3 (by kernel_rfl)))
      refine value_ (w1 := w') (v := .slice A7 O.length c7) (by rfl) rfl ?_ ?_
      · go_simp
        (try simp only [i64_w])
        try rfl
        all_goals (try (unfold wrap64; omega))
      refine hK.out _ _ ⟨(by rw [ha.out]; exact putSel_upk 1 hb_ rfl rfl rfl), Q_HB, Q_HC, Q_B4, Q_B6, fun h0_ => absurd ((hoff 3 (by kernel_rfl)).symm.trans h0_) (by decide)⟩
    refine steps_cons ?_ ?_
    · rintro b a w' ⟨ha, Q_HB, Q_HC, Q_B4, Q_B6, Q_BR⟩ hb_ hon hoff
      refine ⟨_, rfl, fun K hK => ?_⟩
      have e15 : a.tmps[15]? = some (.slice A7 O.length c7) := by rw [ha]; exact putSel_on (e := (1, 15, .slice A7 O.length c7)) 1 rfl rfl (hon 1 (by kernel_rfl)) rfl
      replace ha := Aside0.mk ha
      have HB := Aside0.mk Q_HB
      have HC := Aside0.mk (Q_HC (hoff 3 (by kernel_rfl)))
      have B4 := Aside0.mk (Q_B4 (hoff 3 (by kernel_rfl)))
      have B6 := Aside0.mk (Q_B6 (hoff 3 (by kernel_rfl)))
      refine goes_ Try.func23 (by kernel_rfl) rfl #[.slice A7 O.length c7] (by rfl) rfl rfl (by first | (simp only [List.map_toArray, List.map_cons, List.map_nil, Act.eval, Array.getD_eq_getD_getElem?, Option.getD_some, e15]; done) | (simp only [List.map_toArray, List.map_cons, List.map_nil, Act.eval, Array.getD_eq_getD_getElem?, Option.getD_some, e15]; rfl)) ?_
      refine (viaductref01_Number.calls kk A7 c7 O x _ HC.out hc7 HKK.out).mono ?_
      rintro e w2_ ⟨rfl, ⟨nd, rfl⟩⟩
      have hb : Below w'.heap.size w' (w'.drewN nd) := pw_below_drewN (Below.refl _ _) nd
      refine ⟨_, rfl, ?_⟩
      refine hK.out _ _ ⟨(by rw [ha.out]; exact putSel_upk 2 hb_ rfl rfl rfl), below_then HB.out HB.out.size hb, fun _ => Kd.C_below HC.out hb, fun _ => blk_below B4.out hb, fun _ => blk_below B6.out hb, fun h0_ => absurd ((hoff 3 (by kernel_rfl)).symm.trans h0_) (by decide)⟩
    refine steps_cons ?_ ?_
    · rintro b a w' ⟨ha, Q_HB, Q_HC, Q_B4, Q_B6, Q_BR⟩ hb_ hon hoff
      refine ⟨_, rfl, fun K hK => ?_⟩
      have e4 : a.tmps[4]? = some (.pointer (some ⟨g4, 0, none⟩)) := by rw [ha]; exact (putSel_off rfl).trans rfl
      have e14 : a.tmps[14]? = some (.agg #[.slice B l.length c, .int .i64 (at2 : Int), .int .i64 E]) := by rw [ha]; exact putSel_on (e := (0, 14, .agg #[.slice B l.length c, .int .i64 (at2 : Int), .int .i64 E])) 0 rfl rfl (hon 0 (by kernel_rfl)) rfl
      replace ha := Aside0.mk ha
      have HB := Aside0.mk Q_HB
      have HC := Aside0.mk (Q_HC hb_)
      have B4 := Aside0.mk (Q_B4 hb_)
      have B6 := Aside0.mk (Q_B6 hb_)
      have hq0_ : w'.cell? ⟨g4, 0, none⟩ = some (.slice none 0 0) := (blk_cell B4.out 0).trans rfl
      have hq1_ : w'.cell? ⟨g4, 1, none⟩ = some (.int .i64 0) := (blk_cell B4.out 1).trans rfl
      have hq2_ : w'.cell? ⟨g4, 2, none⟩ = some (.int .i64 0) := (blk_cell B4.out 2).trans rfl
      have hf0_ := blk_frozen B4.out 0
      have hf1_ := blk_frozen B4.out 1
      have hf2_ := blk_frozen B4.out 2
      refine skip_ (w1 := ((w'.setCell ⟨g4, 0, none⟩ (.slice B l.length c)).setCell ⟨g4, 1, none⟩ (.int .i64 (at2 : Int))).setCell ⟨g4, 2, none⟩ (.int .i64 E)) (by rfl) rfl ?_ ?_
      · go_simp
        try rfl
        all_goals (try (unfold wrap64; omega))
      refine hK.out _ _ ⟨(by rw [ha.out]; exact putSel_none (v := undef) rfl), below_put3 _ _ _ HB.out HB.out.size HG4.out, fun h0_ => absurd ((up_self b 3).symm.trans h0_) (by decide), fun h0_ => absurd ((up_self b 3).symm.trans h0_) (by decide), fun h0_ => absurd ((up_self b 3).symm.trans h0_) (by decide), fun _ => put3 _ _ _ B4.out⟩
    refine steps_cons ?_ ?_
    · rintro b a w' ⟨ha, Q_HB, Q_HC, Q_B4, Q_B6, Q_BR⟩ hb_ hon hoff
      refine ⟨_, rfl, fun K hK => ?_⟩
      have e16 : a.tmps[16]? = some (.int .u64 x) := by rw [ha]; exact putSel_on (e := (2, 16, .int .u64 x)) 2 rfl rfl (hon 2 (by kernel_rfl)) rfl
      replace ha := Aside0.mk ha
      have HB := Aside0.mk Q_HB
      have BR := Aside0.mk (Q_BR (hon 3 (by kernel_rfl)))
      refine value_ (w1 := w') (v := .int .u64 x) (by rfl) rfl ?_ ?_
      · go_simp
        (try simp only [i64_w])
        try rfl
        all_goals (try (unfold wrap64; omega))
      refine hK.out _ _ ⟨(by rw [ha.out]; exact putSel_upk 3 hb_ rfl rfl rfl), Q_HB, fun h0_ => absurd ((hon 3 (by kernel_rfl)).symm.trans h0_) (by decide), fun h0_ => absurd ((hon 3 (by kernel_rfl)).symm.trans h0_) (by decide), fun h0_ => absurd ((hon 3 (by kernel_rfl)).symm.trans h0_) (by decide), Q_BR⟩
    exact steps_nil
  rintro b a w7 hall ⟨ha, Q_HB, Q_HC, Q_B4, Q_B6, Q_BR⟩
  clear B4 B6 HB HC
  have hb0_ := hall 0 (by kernel_rfl)
  have hb1_ := hall 1 (by kernel_rfl)
  have hb2_ := hall 2 (by kernel_rfl)
  have hb3_ := hall 3 (by kernel_rfl)
  have hb4_ := hall 4 (by kernel_rfl)
  subst ha
  simp only [putSel, hb0_, hb1_, hb2_, hb3_, hb4_, if_true, Act.put, List.setIfInBounds_toArray, List.set_cons_zero, List.set_cons_succ]
  have HB := Aside0.mk Q_HB
  clear Q_HB
  clear Q_HC
  clear Q_B4
  clear Q_B6
  have BR := Aside0.mk (Q_BR hb3_)
  clear Q_BR
  clear hall hb0_ hb1_ hb2_ hb3_ hb4_
  go_wp2_with fail
  refine bodyPost_ret (results_ct rfl _ _ g4 43 #[.slice B l.length c, .int .i64 (at2 : Int), .int .i64 (E)] (0, 0) _ rfl BR.out Try.underlying43 rfl (by kernel_rfl)) rfl ?_
  exact ⟨at2, rfl, h1', h2', trivial, HB.out⟩
end Go.Proofs.Ytkjfemkmooepnaa.Walk
