/- The reference's Bytes, Uint and Left, whose bytes are only read. -/
import Derived.Test.YtkjfemkmooepnaaRefTake
namespace Go.Proofs.Ytkjfemkmooepnaa.Walk
open Go.RowKit Go.Proofs.YtkjfemkmooepnaaW.PrintWords Go.Proofs.YtkjfemkmooepnaaW.PrintLast Go.Proofs.YtkjfemkmooepnaaW.PrintMore Go.Proofs.Ytkjfemkmooepnaa.Oct Go.Proofs.Ytkjfemkmooepnaa.Ref
set_option linter.unusedVariables false
set_option linter.unusedSimpArgs false

set_option maxRecDepth 20000 in
set_option maxHeartbeats 2000000 in
theorem rtake_any {w : World} {B : Option Addr} {c : Nat} {l : List Int} (hr : Kd.C (Kd.int .u8) w B l.length l) (hc : l.length ≤ c) (hl : l.length ≤ 4096) (at_ : Nat) (hat : at_ ≤ l.length) (er n lo hi : Int) (h0 : 0 ≤ lo) (b : Bool) (hb : b = (decide (lo ≤ n) && decide (n ≤ hi))) :
    Calls Try.prog 25 #[.agg #[.slice B l.length c, .int .i64 (at_ : Int), .int .i64 er], .int .i64 n, .int .i64 lo, .int .i64 hi] w fun e w' => ∃ (v : Value) (at2 : Nat), e = .returned (.tuple #[.agg #[.slice B l.length c, .int .i64 (at2 : Int), .int .i64 (takeE (l.drop at_) er n b)], v]) ∧ at2 ≤ l.length ∧ l.drop at2 = takeL (l.drop at_) er n b ∧ Kd.R (Kd.int .u8) 5 w' w.heap.size (fun _ => True) v (takeO (l.drop at_) er n b) ∧ Below w.heap.size w w' := by
  by_cases he : er = 0
  · subst he
    by_cases hbt : lo ≤ n ∧ n ≤ hi
    · have hb1 : b = true := by rw [hb]; simp [hbt.1, hbt.2]
      subst hb1
      obtain ⟨nn, rfl⟩ := Int.eq_ofNat_of_zero_le (Int.le_trans h0 hbt.1)
      by_cases hx : at_ + nn ≤ l.length
      · have hd : ((nn : Nat) : Int) ≤ ((l.drop at_).length : Int) := by rw [List.length_drop]; omega
        have e1 : takeE (l.drop at_) 0 (nn : Int) true = 0 := by simp only [takeE, if_true, if_pos hd]
        have e2 : takeL (l.drop at_) 0 (nn : Int) true = l.drop (at_ + nn) := by unfold takeL; rw [if_pos ⟨rfl, rfl, hd⟩, Int.toNat_natCast, List.drop_drop]
        have e3 : takeO (l.drop at_) 0 (nn : Int) true = (l.drop at_).take nn := by unfold takeO; rw [if_pos ⟨rfl, rfl, hd⟩, Int.toNat_natCast]
        rw [e1, e2, e3]
        refine (rtake_ok hr hc hl at_ hat 0 (nn : Int) lo hi nn rfl hbt.1 hbt.2 hx).mono ?_
        rintro e w' ⟨v, rfl, hv, hb⟩
        exact ⟨v, at_ + nn, rfl, hx, rfl, hv, hb⟩
      · have hd : ¬ ((nn : Nat) : Int) ≤ ((l.drop at_).length : Int) := by rw [List.length_drop]; omega
        have e1 : takeE (l.drop at_) 0 (nn : Int) true = 4 := by simp only [takeE, if_true, if_neg hd]
        have e2 : takeL (l.drop at_) 0 (nn : Int) true = l.drop at_ := by unfold takeL; rw [if_neg (fun h => hd h.2.2)]
        have e3 : takeO (l.drop at_) 0 (nn : Int) true = [] := by unfold takeO; rw [if_neg (fun h => hd h.2.2)]
        rw [e1, e2, e3]
        refine (rtake_short hr hc hl at_ hat 0 (nn : Int) lo hi hbt.1 hbt.2 (by omega)).mono ?_
        rintro e w' ⟨v, rfl, hv, hb⟩
        exact ⟨v, at_, rfl, hat, rfl, hv, hb⟩
    · have hb1 : b = false := by
        rw [hb, Bool.and_eq_false_iff]
        by_cases h1 : lo ≤ n
        · exact .inr (decide_eq_false (fun h => hbt ⟨h1, h⟩))
        · exact .inl (decide_eq_false h1)
      subst hb1
      have e1 : takeE (l.drop at_) 0 n false = 2 := by simp [takeE]
      have e2 : takeL (l.drop at_) 0 n false = l.drop at_ := by simp [takeL]
      have e3 : takeO (l.drop at_) 0 n false = [] := by simp [takeO]
      rw [e1, e2, e3]
      refine (rtake_arg hr hc hl at_ hat 0 n lo hi (by omega)).mono ?_
      rintro e w' ⟨v, rfl, hv, hb⟩
      exact ⟨v, at_, rfl, hat, rfl, hv, hb⟩
  · have e1 : takeE (l.drop at_) er n b = er := by simp [takeE, he]
    have e2 : takeL (l.drop at_) er n b = l.drop at_ := by simp [takeL, he]
    have e3 : takeO (l.drop at_) er n b = [] := by simp [takeO, he]
    rw [e1, e2, e3]
    refine (rtake_err hr hc hl at_ hat er n lo hi he).mono ?_
    rintro e w' ⟨v, rfl, hv, hb⟩
    exact ⟨v, at_, rfl, hat, rfl, hv, hb⟩

theorem rleft {w : World} {B : Option Addr} {c : Nat} {l : List Int} (hl : l.length ≤ 4096) (at_ : Nat) (hat : at_ ≤ l.length) (er : Int) :
    Calls Try.prog 21 #[.agg #[.slice B l.length c, .int .i64 (at_ : Int), .int .i64 er]] w fun e w' => e = .returned (.int .i64 ((l.drop at_).length : Int)) ∧ Below w.heap.size w w' := by
  have hs : wrap64 ((l.length : Int) - (at_ : Int)) = ((l.drop at_).length : Int) := by rw [List.length_drop, wrap64_id (by omega) (by omega)]; omega
  obtain ⟨q, hq⟩ : ∃ q : Int, ((l.drop at_).length : Int) = q := ⟨_, rfl⟩
  have hs2 : (l.length : Int) - (at_ : Int) = q := by rw [← hq, List.length_drop]; omega
  rw [hq] at hs ⊢
  clear hq
  go_enter Try.func21, Try.ntmps21
  go_wp2_with ((with_reducible refine gate_dst (N := 1) rfl ?_); refine box_event ?hg (N := 1) ?hd (cs := #[.slice B l.length c, .int .i64 (at_ : Int), .int .i64 er]) (t := 43) ?hr ?_; (case hd => rfl); (case hg => rfl); (case hr => first | (go_simp; done) | (go_simp; rfl)); intro g1 hg w1 hbox hb; have B1 := Aside0.mk hbox; have HB1 := Aside0.mk hb; clear hb hbox hg; have aq0_ : w1.cell? ⟨g1, 0, none⟩ = some (.slice B l.length c) := (blk_cell B1.out 0).trans rfl; have af0_ := blk_frozen B1.out 0; have aq1_ : w1.cell? ⟨g1, 1, none⟩ = some (.int .i64 (at_ : Int)) := (blk_cell B1.out 1).trans rfl; have af1_ := blk_frozen B1.out 1; have aq2_ : w1.cell? ⟨g1, 2, none⟩ = some (.int .i64 er) := (blk_cell B1.out 2).trans rfl; have af2_ := blk_frozen B1.out 2)
  go_ret
  refine ⟨?_, HB1.out⟩
  first | rfl | (rw [← hs2]; rfl) | (simp [hs2])

theorem take_same (l : List Int) (er n : Int) (b b' : Bool) (h : er ≠ 0 ∨ b = b') : takeE l er n b = takeE l er n b' ∧ takeL l er n b = takeL l er n b' ∧ takeO l er n b = takeO l er n b' := by
  rcases h with h | rfl
  · simp [takeE, takeL, takeO, h]
  · exact ⟨rfl, rfl, rfl⟩
set_option maxRecDepth 20000 in
set_option maxHeartbeats 2000000 in
theorem rbytes {w : World} {B : Option Addr} {c : Nat} {l : List Int} (hr : Kd.C (Kd.int .u8) w B l.length l) (hc : l.length ≤ c) (hl : l.length ≤ 4096) (at_ : Nat) (hat : at_ ≤ l.length) (er n : Int) (hn : -9223372036854775808 ≤ n) :
    Calls Try.prog 19 #[.agg #[.slice B l.length c, .int .i64 (at_ : Int), .int .i64 er], .int .i64 n] w fun e w' => ∃ (v : Value) (at2 : Nat), e = .returned (.tuple #[.agg #[.slice B l.length c, .int .i64 (at2 : Int), .int .i64 (takeE (l.drop at_) er n (decide (0 ≤ n)))], v]) ∧ at2 ≤ l.length ∧ l.drop at2 = takeL (l.drop at_) er n (decide (0 ≤ n)) ∧ Kd.R (Kd.int .u8) 5 w' w.heap.size (fun _ => True) v (takeO (l.drop at_) er n (decide (0 ≤ n))) ∧ Below w.heap.size w w' := by
  have HR := Aside0.mk hr
  clear hr
  by_cases hp : (l.length : Int) < n ∧ er = 0
  · obtain ⟨h1, rfl⟩ := hp
    have hd : ¬ n ≤ ((l.drop at_).length : Int) := by rw [List.length_drop]; omega
    have h0 : decide ((0 : Int) ≤ n) = true := decide_eq_true (by omega)
    have e1 : takeE (l.drop at_) 0 n (decide (0 ≤ n)) = 4 := by rw [h0]; simp only [takeE, if_true, if_neg hd]
    have e2 : takeL (l.drop at_) 0 n (decide (0 ≤ n)) = l.drop at_ := by unfold takeL; rw [if_neg (fun h => hd h.2.2)]
    have e3 : takeO (l.drop at_) 0 n (decide (0 ≤ n)) = [] := by unfold takeO; rw [if_neg (fun h => hd h.2.2)]
    rw [e1, e2, e3]
    clear e1 e2 e3 hd h0
    go_enter Try.func19, Try.ntmps19
    go_wp2_with (first | ((with_reducible refine gate_dst (N := 2) rfl ?_); refine box_event ?hg (N := 2) ?hd (cs := #[.slice B l.length c, .int .i64 (at_ : Int), .int .i64 0]) (t := 43) ?hr ?_; (case hd => rfl); (case hg => rfl); (case hr => first | (go_simp; done) | (go_simp; rfl)); intro g2 hg w1 hbox hb; have B2 := Aside0.mk hbox; have HB1 := Aside0.mk hb; have HG2 := Aside0.mk (Nat.le_of_eq hg.symm); clear hb hbox hg) | ((with_reducible refine gate_dst (N := 4) rfl ?_); refine box_event ?hg (N := 4) ?hd (cs := #[.slice none 0 0, .int .i64 0, .int .i64 0]) (t := 43) ?hr ?_; (case hd => rfl); (case hg => rfl); (case hr => first | (go_simp; done) | (go_simp; rfl)); intro g4 hg w2 hbox hb; have B4 := Aside0.mk hbox; have hne : g2 ≠ g4 := (by have := blk_lt B2.out; omega); have hne2 : g4 ≠ g2 := (fun e => hne e.symm); have B2' := Aside0.mk (blk_below B2.out hb); have HB2 := Aside0.mk (below_then HB1.out HB1.out.size hb); have HG4 := Aside0.mk (show w.heap.size ≤ g4 from by have := HB1.out.size; omega); clear B2 HB1 hb hbox hg; have B2 := B2'; clear B2'; have aq0_ : w2.cell? ⟨g2, 0, none⟩ = some (.slice B l.length c) := (blk_cell B2.out 0).trans rfl; have af0_ := blk_frozen B2.out 0; have aq1_ : w2.cell? ⟨g2, 1, none⟩ = some (.int .i64 (at_ : Int)) := (blk_cell B2.out 1).trans rfl; have af1_ := blk_frozen B2.out 1; have aq2_ : w2.cell? ⟨g2, 2, none⟩ = some (.int .i64 0) := (blk_cell B2.out 2).trans rfl; have af2_ := blk_frozen B2.out 2; have zq0_ : w2.cell? ⟨g4, 0, none⟩ = some (.slice none 0 0) := (blk_cell B4.out 0).trans rfl; have zf0_ := blk_frozen B4.out 0; have zq1_ : w2.cell? ⟨g4, 1, none⟩ = some (.int .i64 0) := (blk_cell B4.out 1).trans rfl; have zf1_ := blk_frozen B4.out 1; have zq2_ : w2.cell? ⟨g4, 2, none⟩ = some (.int .i64 0) := (blk_cell B4.out 2).trans rfl; have zf2_ := blk_frozen B4.out 2))
    refine bodyPost_ret (results_ct rfl _ _ g4 43 #[.slice B l.length c, .int .i64 (at_ : Int), .int .i64 (4)] (0, 0) _ rfl (put3 _ _ _ (blk_far B4.out hne2 _)) Try.underlying43 rfl (by kernel_rfl)) rfl ?_
    exact ⟨_, at_, rfl, hat, rfl, Kd.R_nil _ _ _ _ _, below_put3 _ _ _ (below_put1 _ _ HB2.out HB2.out.size HG2.out).1 (below_put1 _ _ HB2.out HB2.out.size HG2.out).2 HG4.out⟩
  · have hsame := take_same (l.drop at_) er n (decide (0 ≤ n) && decide (n ≤ (l.length : Int))) (decide (0 ≤ n)) (by
      by_cases he : er = 0
      · refine .inr ?_
        have : n ≤ (l.length : Int) := by
          by_cases h : (l.length : Int) < n
          · exact absurd ⟨h, he⟩ hp
          · omega
        simp [this]
      · exact .inl he)
    have htk := fun (W : World) (hW : Kd.C (Kd.int .u8) W B l.length l) => rtake_any hW hc hl at_ hat er n 0 (l.length : Int) (Int.le_refl 0) _ rfl
    simp only [hsame.1, hsame.2.1, hsame.2.2] at htk
    generalize takeE (l.drop at_) er n (decide (0 ≤ n)) = E at *
    generalize takeL (l.drop at_) er n (decide (0 ≤ n)) = L at *
    generalize takeO (l.drop at_) er n (decide (0 ≤ n)) = O at *
    have HTK := Aside0.mk htk
    clear hsame htk
    have hcase : ¬ (l.length : Int) < n ∨ ((l.length : Int) < n ∧ (er == 0) = false) := by
      by_cases h1 : (l.length : Int) < n
      · exact .inr ⟨h1, by simpa using fun h => hp ⟨h1, h⟩⟩
      · exact .inl h1
    clear hp
    rcases hcase with h1 | ⟨h1, hx⟩
    all_goals
      go_enter Try.func19, Try.ntmps19
      go_wp2_with (first | ((with_reducible refine gate_dst (N := 2) rfl ?_); refine box_event ?hg (N := 2) ?hd (cs := #[.slice B l.length c, .int .i64 (at_ : Int), .int .i64 er]) (t := 43) ?hr ?_; (case hd => rfl); (case hg => rfl); (case hr => first | (go_simp; done) | (go_simp; rfl)); intro g2 hg w1 hbox hb; have B2 := Aside0.mk hbox; have HB1 := Aside0.mk hb; have HG2 := Aside0.mk (Nat.le_of_eq hg.symm); clear hb hbox hg) | ((with_reducible refine gate_dst (N := 4) rfl ?_); refine box_event ?hg (N := 4) ?hd (cs := #[.slice none 0 0, .int .i64 0, .int .i64 0]) (t := 43) ?hr ?_; (case hd => rfl); (case hg => rfl); (case hr => first | (go_simp; done) | (go_simp; rfl)); intro g4 hg w2 hbox hb; have B4 := Aside0.mk hbox; have hne : g2 ≠ g4 := (by have := blk_lt B2.out; omega); have hne2 : g4 ≠ g2 := (fun e => hne e.symm); have B2' := Aside0.mk (blk_below B2.out hb); have HB2 := Aside0.mk (below_then HB1.out HB1.out.size hb); have HG4 := Aside0.mk (show w.heap.size ≤ g4 from by have := HB1.out.size; omega); clear B2 HB1 hb hbox hg; have B2 := B2'; clear B2'; have aq0_ : w2.cell? ⟨g2, 0, none⟩ = some (.slice B l.length c) := (blk_cell B2.out 0).trans rfl; have af0_ := blk_frozen B2.out 0; have aq1_ : w2.cell? ⟨g2, 1, none⟩ = some (.int .i64 (at_ : Int)) := (blk_cell B2.out 1).trans rfl; have af1_ := blk_frozen B2.out 1; have aq2_ : w2.cell? ⟨g2, 2, none⟩ = some (.int .i64 er) := (blk_cell B2.out 2).trans rfl; have af2_ := blk_frozen B2.out 2; have zq0_ : w2.cell? ⟨g4, 0, none⟩ = some (.slice none 0 0) := (blk_cell B4.out 0).trans rfl; have zf0_ := blk_frozen B4.out 0; have zq1_ : w2.cell? ⟨g4, 1, none⟩ = some (.int .i64 0) := (blk_cell B4.out 1).trans rfl; have zf1_ := blk_frozen B4.out 1; have zq2_ : w2.cell? ⟨g4, 2, none⟩ = some (.int .i64 0) := (blk_cell B4.out 2).trans rfl; have zf2_ := blk_frozen B4.out 2))
      clear aq0_ aq1_ aq2_ af0_ af1_ af2_ zq0_ zq1_ zq2_ zf0_ zf1_ zf2_
      refine (HTK.out w2 (Kd.C_below HR.out HB2.out)).mono ?_
      rintro e w3 ⟨v, at2, rfl, h1', h2', hv, hb⟩
      obtain ⟨A5, c5, e5⟩ := Kd.R_slice hv
      subst e5
      have hlt4 := blk_lt B4.out
      have HSZ := Aside0.mk HB2.out.size
      have HV := Aside0.mk (Kd.R_mono (ok' := fun k => k ≠ g4) (Kd.R_bound hv) (fun k hk e => by have := hk.2.1; omega))
      replace B4 := Aside0.mk (blk_below B4.out hb)
      replace HB2 := Aside0.mk (below_then HB2.out HB2.out.size hb)
      clear hv hb hlt4
      have zq0_ : w3.cell? ⟨g4, 0, none⟩ = some (.slice none 0 0) := (blk_cell B4.out 0).trans rfl; have zf0_ := blk_frozen B4.out 0; have zq1_ : w3.cell? ⟨g4, 1, none⟩ = some (.int .i64 0) := (blk_cell B4.out 1).trans rfl; have zf1_ := blk_frozen B4.out 1; have zq2_ : w3.cell? ⟨g4, 2, none⟩ = some (.int .i64 0) := (blk_cell B4.out 2).trans rfl; have zf2_ := blk_frozen B4.out 2
      go_wp2
      refine bodyPost_ret (results_ct rfl _ _ g4 43 #[.slice B l.length c, .int .i64 (at2 : Int), .int .i64 (E)] (0, 0) _ rfl (put3 _ _ _ B4.out) Try.underlying43 rfl (by kernel_rfl)) rfl ?_
      exact ⟨_, at2, rfl, h1', h2', Kd.R_lower (Kd.R_mono (Kd.R_far (p := ⟨g4, 2, none⟩) (Kd.R_far (p := ⟨g4, 1, none⟩) (Kd.R_far (p := ⟨g4, 0, none⟩) HV.out (fun _ h => h) _) (fun _ h => h) _) (fun _ h => h) _) (fun _ _ => trivial)) HSZ.out, below_put3 _ _ _ HB2.out HB2.out.size HG4.out⟩
end Go.Proofs.Ytkjfemkmooepnaa.Walk
