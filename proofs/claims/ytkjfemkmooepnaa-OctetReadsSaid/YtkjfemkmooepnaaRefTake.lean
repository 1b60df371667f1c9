/- The reference's reader, whose bytes are only read. -/
import Derived.Test.YtkjfemkmooepnaaRefBack
import Derived.Test.YtkjfemkmooepnaaKnd01
namespace Go.Proofs.Ytkjfemkmooepnaa.Walk
open Go.RowKit Go.Proofs.YtkjfemkmooepnaaW.PrintWords Go.Proofs.YtkjfemkmooepnaaW.PrintLast Go.Proofs.YtkjfemkmooepnaaW.PrintMore Go.Proofs.Ytkjfemkmooepnaa.Oct Go.Proofs.Ytkjfemkmooepnaa.Ref
set_option linter.unusedVariables false
set_option linter.unusedSimpArgs false

theorem put3 {W : World} {g : Nat} {t : TypeId} {c0 c1 c2 : Value} (v0 v1 v2 : Value) (h : W.heap[g]? = some (.cells #[c0, c1, c2] t (0, 0))) :
    (((W.setCell ⟨g, 0, none⟩ v0).setCell ⟨g, 1, none⟩ v1).setCell ⟨g, 2, none⟩ v2).heap[g]? = some (.cells #[v0, v1, v2] t (0, 0)) := blk_set (blk_set (blk_set h 0 v0) 1 v1) 2 v2
theorem below_put1 {W0 W : World} {g n : Nat} (j : Nat) (v : Value) (hb : Below n W0 W) (hn : n ≤ W.heap.size) (hg : n ≤ g) : Below n W0 (W.setCell ⟨g, j, none⟩ v) ∧ n ≤ (W.setCell ⟨g, j, none⟩ v).heap.size :=
  ⟨hb.grown (grown_set W g j v) hn (by intro k hk; cases hk; exact hg), Nat.le_trans hn (grown_set W g j v).size⟩
theorem below_put3 {W0 W : World} {g n : Nat} (v0 v1 v2 : Value) (hb : Below n W0 W) (hn : n ≤ W.heap.size) (hg : n ≤ g) : Below n W0 (((W.setCell ⟨g, 0, none⟩ v0).setCell ⟨g, 1, none⟩ v1).setCell ⟨g, 2, none⟩ v2) := by
  have b1 := below_put1 0 v0 hb hn hg
  have b2 := below_put1 1 v1 b1.1 b1.2 hg
  exact (below_put1 2 v2 b2.1 b2.2 hg).1

set_option maxRecDepth 20000 in
set_option maxHeartbeats 2000000 in
theorem rtake_err {w : World} {B : Option Addr} {c : Nat} {l : List Int} (hr : Kd.C (Kd.int .u8) w B l.length l) (hc : l.length ≤ c) (hl : l.length ≤ 4096) (at_ : Nat) (hat : at_ ≤ l.length) (er n lo hi : Int) (he : er ≠ 0) :
    Calls Try.prog 25 #[.agg #[.slice B l.length c, .int .i64 (at_ : Int), .int .i64 er], .int .i64 n, .int .i64 lo, .int .i64 hi] w fun e w' => ∃ v, e = .returned (.tuple #[.agg #[.slice B l.length c, .int .i64 (at_ : Int), .int .i64 er], v]) ∧ Kd.R (Kd.int .u8) 5 w' w.heap.size (fun _ => True) v ([]) ∧ Below w.heap.size w w' := by
  have hx : (er != 0) = true := bne_iff_ne.mpr he
  clear he hr
  go_enter Try.func25, Try.ntmps25
  go_wp2_with (first | ((with_reducible refine gate_dst (N := 4) rfl ?_); refine box_event ?hg (N := 4) ?hd (cs := #[.slice B l.length c, .int .i64 (at_ : Int), .int .i64 er]) (t := 43) ?hr ?_; (case hd => rfl); (case hg => rfl); (case hr => first | (go_simp; done) | (go_simp; rfl)); intro g4 hg w1 hbox hb; have B4 := Aside0.mk hbox; have HB1 := Aside0.mk hb; have HG4 := Aside0.mk (Nat.le_of_eq hg.symm); clear hb hbox hg) | ((with_reducible refine gate_dst (N := 8) rfl ?_); refine box_event ?hg (N := 8) ?hd (cs := #[.slice none 0 0, .int .i64 0, .int .i64 0]) (t := 43) ?hr ?_; (case hd => rfl); (case hg => rfl); (case hr => first | (go_simp; done) | (go_simp; rfl)); intro g8 hg w2 hbox hb; have B8 := Aside0.mk hbox; have hne : g4 ≠ g8 := (by have := blk_lt B4.out; omega); have hne2 : g8 ≠ g4 := (fun e => hne e.symm); have B4' := Aside0.mk (blk_below B4.out hb); have HB2 := Aside0.mk (below_then HB1.out HB1.out.size hb); have HG8 := Aside0.mk (show w.heap.size ≤ g8 from by have := HB1.out.size; omega); clear B4 HB1 hb hbox hg; have B4 := B4'; clear B4'; have aq0_ : w2.cell? ⟨g4, 0, none⟩ = some (.slice B l.length c) := (blk_cell B4.out 0).trans rfl; have af0_ := blk_frozen B4.out 0; have aq1_ : w2.cell? ⟨g4, 1, none⟩ = some (.int .i64 (at_ : Int)) := (blk_cell B4.out 1).trans rfl; have af1_ := blk_frozen B4.out 1; have aq2_ : w2.cell? ⟨g4, 2, none⟩ = some (.int .i64 er) := (blk_cell B4.out 2).trans rfl; have af2_ := blk_frozen B4.out 2; have zq0_ : w2.cell? ⟨g8, 0, none⟩ = some (.slice none 0 0) := (blk_cell B8.out 0).trans rfl; have zf0_ := blk_frozen B8.out 0; have zq1_ : w2.cell? ⟨g8, 1, none⟩ = some (.int .i64 0) := (blk_cell B8.out 1).trans rfl; have zf1_ := blk_frozen B8.out 1; have zq2_ : w2.cell? ⟨g8, 2, none⟩ = some (.int .i64 0) := (blk_cell B8.out 2).trans rfl; have zf2_ := blk_frozen B8.out 2))
  refine bodyPost_ret (results_ct rfl _ _ g8 43 #[.slice B l.length c, .int .i64 (at_ : Int), .int .i64 er] (0, 0) _ rfl (put3 _ _ _ B8.out) Try.underlying43 rfl (by kernel_rfl)) rfl ?_
  exact ⟨_, rfl, Kd.R_nil _ _ _ _ _, below_put3 _ _ _ HB2.out HB2.out.size HG8.out⟩

set_option maxRecDepth 20000 in
set_option maxHeartbeats 2000000 in
theorem rtake_arg {w : World} {B : Option Addr} {c : Nat} {l : List Int} (hr : Kd.C (Kd.int .u8) w B l.length l) (hc : l.length ≤ c) (hl : l.length ≤ 4096) (at_ : Nat) (hat : at_ ≤ l.length) (er n lo hi : Int) (hx : n < lo ∨ hi < n) :
    Calls Try.prog 25 #[.agg #[.slice B l.length c, .int .i64 (at_ : Int), .int .i64 0], .int .i64 n, .int .i64 lo, .int .i64 hi] w fun e w' => ∃ v, e = .returned (.tuple #[.agg #[.slice B l.length c, .int .i64 (at_ : Int), .int .i64 2], v]) ∧ Kd.R (Kd.int .u8) 5 w' w.heap.size (fun _ => True) v ([]) ∧ Below w.heap.size w w' := by
  clear hr
  by_cases hx1 : n < lo
  all_goals
    go_enter Try.func25, Try.ntmps25
    go_wp2_with (first | ((with_reducible refine gate_dst (N := 4) rfl ?_); refine box_event ?hg (N := 4) ?hd (cs := #[.slice B l.length c, .int .i64 (at_ : Int), .int .i64 0]) (t := 43) ?hr ?_; (case hd => rfl); (case hg => rfl); (case hr => first | (go_simp; done) | (go_simp; rfl)); intro g4 hg w1 hbox hb; have B4 := Aside0.mk hbox; have HB1 := Aside0.mk hb; have HG4 := Aside0.mk (Nat.le_of_eq hg.symm); clear hb hbox hg) | ((with_reducible refine gate_dst (N := 8) rfl ?_); refine box_event ?hg (N := 8) ?hd (cs := #[.slice none 0 0, .int .i64 0, .int .i64 0]) (t := 43) ?hr ?_; (case hd => rfl); (case hg => rfl); (case hr => first | (go_simp; done) | (go_simp; rfl)); intro g8 hg w2 hbox hb; have B8 := Aside0.mk hbox; have hne : g4 ≠ g8 := (by have := blk_lt B4.out; omega); have hne2 : g8 ≠ g4 := (fun e => hne e.symm); have B4' := Aside0.mk (blk_below B4.out hb); have HB2 := Aside0.mk (below_then HB1.out HB1.out.size hb); have HG8 := Aside0.mk (show w.heap.size ≤ g8 from by have := HB1.out.size; omega); clear B4 HB1 hb hbox hg; have B4 := B4'; clear B4'; have aq0_ : w2.cell? ⟨g4, 0, none⟩ = some (.slice B l.length c) := (blk_cell B4.out 0).trans rfl; have af0_ := blk_frozen B4.out 0; have aq1_ : w2.cell? ⟨g4, 1, none⟩ = some (.int .i64 (at_ : Int)) := (blk_cell B4.out 1).trans rfl; have af1_ := blk_frozen B4.out 1; have aq2_ : w2.cell? ⟨g4, 2, none⟩ = some (.int .i64 0) := (blk_cell B4.out 2).trans rfl; have af2_ := blk_frozen B4.out 2; have zq0_ : w2.cell? ⟨g8, 0, none⟩ = some (.slice none 0 0) := (blk_cell B8.out 0).trans rfl; have zf0_ := blk_frozen B8.out 0; have zq1_ : w2.cell? ⟨g8, 1, none⟩ = some (.int .i64 0) := (blk_cell B8.out 1).trans rfl; have zf1_ := blk_frozen B8.out 1; have zq2_ : w2.cell? ⟨g8, 2, none⟩ = some (.int .i64 0) := (blk_cell B8.out 2).trans rfl; have zf2_ := blk_frozen B8.out 2))
    refine bodyPost_ret (results_ct rfl _ _ g8 43 #[.slice B l.length c, .int .i64 (at_ : Int), .int .i64 2] (0, 0) _ rfl (put3 _ _ _ (blk_far B8.out hne2 _)) Try.underlying43 rfl (by kernel_rfl)) rfl ?_
    exact ⟨_, rfl, Kd.R_nil _ _ _ _ _, below_put3 _ _ _ (below_put1 _ _ HB2.out HB2.out.size HG4.out).1 (below_put1 _ _ HB2.out HB2.out.size HG4.out).2 HG8.out⟩
  
set_option maxRecDepth 20000 in
set_option maxHeartbeats 2000000 in
theorem rtake_short {w : World} {B : Option Addr} {c : Nat} {l : List Int} (hr : Kd.C (Kd.int .u8) w B l.length l) (hc : l.length ≤ c) (hl : l.length ≤ 4096) (at_ : Nat) (hat : at_ ≤ l.length) (er n lo hi : Int) (h1 : lo ≤ n) (h2 : n ≤ hi) (hx : (l.length : Int) - at_ < n) :
    Calls Try.prog 25 #[.agg #[.slice B l.length c, .int .i64 (at_ : Int), .int .i64 0], .int .i64 n, .int .i64 lo, .int .i64 hi] w fun e w' => ∃ v, e = .returned (.tuple #[.agg #[.slice B l.length c, .int .i64 (at_ : Int), .int .i64 4], v]) ∧ Kd.R (Kd.int .u8) 5 w' w.heap.size (fun _ => True) v ([]) ∧ Below w.heap.size w w' := by
  clear hr
  have hs : wrap64 ((l.length : Int) - (at_ : Int)) = (l.length : Int) - (at_ : Int) := wrap64_id (by omega) (by omega)
  go_enter Try.func25, Try.ntmps25
  go_wp2_with (first | ((with_reducible refine gate_dst (N := 4) rfl ?_); refine box_event ?hg (N := 4) ?hd (cs := #[.slice B l.length c, .int .i64 (at_ : Int), .int .i64 0]) (t := 43) ?hr ?_; (case hd => rfl); (case hg => rfl); (case hr => first | (go_simp; done) | (go_simp; rfl)); intro g4 hg w1 hbox hb; have B4 := Aside0.mk hbox; have HB1 := Aside0.mk hb; have HG4 := Aside0.mk (Nat.le_of_eq hg.symm); clear hb hbox hg) | ((with_reducible refine gate_dst (N := 8) rfl ?_); refine box_event ?hg (N := 8) ?hd (cs := #[.slice none 0 0, .int .i64 0, .int .i64 0]) (t := 43) ?hr ?_; (case hd => rfl); (case hg => rfl); (case hr => first | (go_simp; done) | (go_simp; rfl)); intro g8 hg w2 hbox hb; have B8 := Aside0.mk hbox; have hne : g4 ≠ g8 := (by have := blk_lt B4.out; omega); have hne2 : g8 ≠ g4 := (fun e => hne e.symm); have B4' := Aside0.mk (blk_below B4.out hb); have HB2 := Aside0.mk (below_then HB1.out HB1.out.size hb); have HG8 := Aside0.mk (show w.heap.size ≤ g8 from by have := HB1.out.size; omega); clear B4 HB1 hb hbox hg; have B4 := B4'; clear B4'; have aq0_ : w2.cell? ⟨g4, 0, none⟩ = some (.slice B l.length c) := (blk_cell B4.out 0).trans rfl; have af0_ := blk_frozen B4.out 0; have aq1_ : w2.cell? ⟨g4, 1, none⟩ = some (.int .i64 (at_ : Int)) := (blk_cell B4.out 1).trans rfl; have af1_ := blk_frozen B4.out 1; have aq2_ : w2.cell? ⟨g4, 2, none⟩ = some (.int .i64 0) := (blk_cell B4.out 2).trans rfl; have af2_ := blk_frozen B4.out 2; have zq0_ : w2.cell? ⟨g8, 0, none⟩ = some (.slice none 0 0) := (blk_cell B8.out 0).trans rfl; have zf0_ := blk_frozen B8.out 0; have zq1_ : w2.cell? ⟨g8, 1, none⟩ = some (.int .i64 0) := (blk_cell B8.out 1).trans rfl; have zf1_ := blk_frozen B8.out 1; have zq2_ : w2.cell? ⟨g8, 2, none⟩ = some (.int .i64 0) := (blk_cell B8.out 2).trans rfl; have zf2_ := blk_frozen B8.out 2))
  refine bodyPost_ret (results_ct rfl _ _ g8 43 #[.slice B l.length c, .int .i64 (at_ : Int), .int .i64 4] (0, 0) _ rfl (put3 _ _ _ (blk_far B8.out hne2 _)) Try.underlying43 rfl (by kernel_rfl)) rfl ?_
  exact ⟨_, rfl, Kd.R_nil _ _ _ _ _, below_put3 _ _ _ (below_put1 _ _ HB2.out HB2.out.size HG4.out).1 (below_put1 _ _ HB2.out HB2.out.size HG4.out).2 HG8.out⟩
set_option maxRecDepth 20000 in
set_option maxHeartbeats 2000000 in
theorem rtake_ok {w : World} {B : Option Addr} {c : Nat} {l : List Int} (hr : Kd.C (Kd.int .u8) w B l.length l) (hc : l.length ≤ c) (hl : l.length ≤ 4096) (at_ : Nat) (hat : at_ ≤ l.length) (er n lo hi : Int) (nn : Nat) (hn : n = (nn : Int)) (h1 : lo ≤ n) (h2 : n ≤ hi) (hx : at_ + nn ≤ l.length) :
    Calls Try.prog 25 #[.agg #[.slice B l.length c, .int .i64 (at_ : Int), .int .i64 0], .int .i64 n, .int .i64 lo, .int .i64 hi] w fun e w' => ∃ v, e = .returned (.tuple #[.agg #[.slice B l.length c, .int .i64 (((at_ + nn : Nat) : Int)), .int .i64 0], v]) ∧ Kd.R (Kd.int .u8) 5 w' w.heap.size (fun _ => True) v ((l.drop at_).take nn) ∧ Below w.heap.size w w' := by
  subst hn
  have HR := Aside0.mk hr
  clear hr
  have hs : wrap64 ((l.length : Int) - (at_ : Int)) = (l.length : Int) - (at_ : Int) := wrap64_id (by omega) (by omega)
  have hx2 : ¬ (l.length : Int) - (at_ : Int) < (nn : Int) := by omega
  go_enter Try.func25, Try.ntmps25
  go_wp2_with (first | ((with_reducible refine gate_dst (N := 4) rfl ?_); refine box_event ?hg (N := 4) ?hd (cs := #[.slice B l.length c, .int .i64 (at_ : Int), .int .i64 0]) (t := 43) ?hr ?_; (case hd => rfl); (case hg => rfl); (case hr => first | (go_simp; done) | (go_simp; rfl)); intro g4 hg w1 hbox hb; have B4 := Aside0.mk hbox; have HB1 := Aside0.mk hb; have HG4 := Aside0.mk (Nat.le_of_eq hg.symm); clear hb hbox hg) | ((with_reducible refine gate_dst (N := 8) rfl ?_); refine box_event ?hg (N := 8) ?hd (cs := #[.slice none 0 0, .int .i64 0, .int .i64 0]) (t := 43) ?hr ?_; (case hd => rfl); (case hg => rfl); (case hr => first | (go_simp; done) | (go_simp; rfl)); intro g8 hg w2 hbox hb; have B8 := Aside0.mk hbox; have hne : g4 ≠ g8 := (by have := blk_lt B4.out; omega); have hne2 : g8 ≠ g4 := (fun e => hne e.symm); have B4' := Aside0.mk (blk_below B4.out hb); have HB2 := Aside0.mk (below_then HB1.out HB1.out.size hb); have HG8 := Aside0.mk (show w.heap.size ≤ g8 from by have := HB1.out.size; omega); clear B4 HB1 hb hbox hg; have B4 := B4'; clear B4'; have aq0_ : w2.cell? ⟨g4, 0, none⟩ = some (.slice B l.length c) := (blk_cell B4.out 0).trans rfl; have af0_ := blk_frozen B4.out 0; have aq1_ : w2.cell? ⟨g4, 1, none⟩ = some (.int .i64 (at_ : Int)) := (blk_cell B4.out 1).trans rfl; have af1_ := blk_frozen B4.out 1; have aq2_ : w2.cell? ⟨g4, 2, none⟩ = some (.int .i64 0) := (blk_cell B4.out 2).trans rfl; have af2_ := blk_frozen B4.out 2; have zq0_ : w2.cell? ⟨g8, 0, none⟩ = some (.slice none 0 0) := (blk_cell B8.out 0).trans rfl; have zf0_ := blk_frozen B8.out 0; have zq1_ : w2.cell? ⟨g8, 1, none⟩ = some (.int .i64 0) := (blk_cell B8.out 1).trans rfl; have zf1_ := blk_frozen B8.out 1; have zq2_ : w2.cell? ⟨g8, 2, none⟩ = some (.int .i64 0) := (blk_cell B8.out 2).trans rfl; have zf2_ := blk_frozen B8.out 2))
  clear aq0_ aq1_ aq2_ af0_ af1_ af2_ zq0_ zq1_ zq2_ zf0_ zf1_ zf2_
  go_loopg [10, 11] nn (fun gk v10 v11 w' => ∃ i k : Nat, k = gk ∧ v11 = .int .i64 (i : Int) ∧ i + k = nn ∧ Aside0 (Kd.R (Kd.int .u8) 5 w' w.heap.size (fun k => k ≠ g4 ∧ k ≠ g8) v10 ((l.drop at_).take i)) ∧ Aside0 (w'.heap[g4]? = some (.cells #[.slice B l.length c, .int .i64 (at_ : Int), .int .i64 0] 43 (0, 0))) ∧ Aside0 (w'.heap[g8]? = some (.cells #[.slice none 0 0, .int .i64 0, .int .i64 0] 43 (0, 0))) ∧ Aside0 (Below w.heap.size w w'))
  case atStart => exact ⟨0, nn, rfl, rfl, by omega, ⟨Kd.R_nil _ _ _ _ _⟩, B4, B8, HB2⟩
  case round =>
    clear B4 B8 HB2
    obtain ⟨i, k, rfl, rfl, hik, HO, B4, B8, HB2⟩ := hrel
    obtain ⟨O, hO⟩ : ∃ O, (l.drop at_).take i = O := ⟨_, rfl⟩
    rw [hO] at HO
    have HOO := Aside0.mk hO
    clear hO
    obtain ⟨A10, c10, e10⟩ := Kd.R_slice HO.out
    subst e10
    obtain ⟨wz, hwz⟩ : ∃ wz, wz = wr := ⟨_, rfl⟩
    subst hwz
    have aq0_ : wz.cell? ⟨g4, 0, none⟩ = some (.slice B l.length c) := (blk_cell B4.out 0).trans rfl; have af0_ := blk_frozen B4.out 0; have aq1_ : wz.cell? ⟨g4, 1, none⟩ = some (.int .i64 (at_ : Int)) := (blk_cell B4.out 1).trans rfl; have af1_ := blk_frozen B4.out 1; have aq2_ : wz.cell? ⟨g4, 2, none⟩ = some (.int .i64 0) := (blk_cell B4.out 2).trans rfl; have af2_ := blk_frozen B4.out 2
    have zq0_ : wz.cell? ⟨g8, 0, none⟩ = some (.slice none 0 0) := (blk_cell B8.out 0).trans rfl; have zf0_ := blk_frozen B8.out 0; have zq1_ : wz.cell? ⟨g8, 1, none⟩ = some (.int .i64 0) := (blk_cell B8.out 1).trans rfl; have zf1_ := blk_frozen B8.out 1; have zq2_ : wz.cell? ⟨g8, 2, none⟩ = some (.int .i64 0) := (blk_cell B8.out 2).trans rfl; have zf2_ := blk_frozen B8.out 2
    by_cases hi : i < nn
    · obtain ⟨k, rfl⟩ : ∃ k', k = k' + 1 := ⟨k - 1, by omega⟩
      obtain ⟨bd, hB, hcell⟩ := Kd.at_int (Kd.C_below HR.out HB2.out) ((at_ + i : Nat) : Int) (by omega) (by omega)
      subst hB
      have hlt : at_ + i < l.length := by omega
      rw [Int.toNat_natCast, rd_at l _ hlt] at hcell
      obtain ⟨x, hxx⟩ : ∃ x, l[at_ + i] = x := ⟨_, rfl⟩
      rw [hxx] at hcell
      have hadd : wrap64 ((at_ : Int) + (i : Int)) = ((at_ + i : Nat) : Int) := by rw [wrap64_id (by omega) (by omega)]; omega
      have hsn : (l.drop at_).take (i + 1) = O ++ [x] := by
        rw [List.take_succ_eq_append_getElem (by rw [List.length_drop]; omega), List.getElem_drop, hxx, HOO.out]
      have hol : O.length = i := by rw [← HOO.out, List.length_take, List.length_drop]; omega
      have HSN := Aside0.mk hsn
      have HFR := Aside0.mk (show ∀ k, wz.heap.size ≤ k → k ≠ g4 ∧ k ≠ g8 from fun k hk => ⟨fun e => by have := blk_lt B4.out; omega, fun e => by have := blk_lt B8.out; omega⟩)
      clear hsn hxx
      go_wp2_with (at_builtin; refine Kd.R_append (Kd.int .u8) (w0 := w) w.heap.size rfl (.tmp 41) (.tmp 50) 22 5 (.int .u8 0) 1 rfl Try.underlying22 info5 rfl (by decide) (by omega) (.slice A10 O.length c10) O x [.int .u8 x] (fun k => k ≠ g4 ∧ k ≠ g8) (fun _ => False) rfl rfl rfl (fun _ hk => hk.elim) HFR.out HO.out HB2.out HB2.out.size (by omega) ?_; intro v51 w5 ho hb hg hat; have HO5 := Aside0.mk ho; have HB5 := Aside0.mk hb; have HG5 := Aside0.mk hg; clear ho hb hg hat)
      go_roundg k
      case rel => exact ⟨i + 1, k, rfl, by go_num, by omega, ⟨by rw [HSN.out]; exact HO5.out⟩, ⟨blk_grown B4.out HG5.out (fun e => (HO.out.1 g4 e.symm).1 rfl)⟩, ⟨blk_grown B8.out HG5.out (fun e => (HO.out.1 g8 e.symm).2 rfl)⟩, HB5⟩
      case measure => omega
    · have hie : i = nn := by omega
      subst hie
      have hadd : wrap64 ((at_ : Int) + (i : Int)) = ((at_ + i : Nat) : Int) := by rw [wrap64_id (by omega) (by omega)]; omega
      go_wp2
      refine bodyPost_ret (results_ct rfl _ _ g8 43 #[.slice B l.length c, .int .i64 ((at_ + i : Nat) : Int), .int .i64 0] (0, 0) _ rfl (put3 _ _ _ (blk_far B8.out hne2 _)) Try.underlying43 rfl (by kernel_rfl)) rfl ?_
      rw [HOO.out]
      exact ⟨_, rfl, Kd.R_mono (Kd.R_far (p := ⟨g8, 2, none⟩) (Kd.R_far (p := ⟨g8, 1, none⟩) (Kd.R_far (p := ⟨g8, 0, none⟩) (Kd.R_far (p := ⟨g4, 1, none⟩) HO.out (fun _ h => h.1) _) (fun _ h => h.2) _) (fun _ h => h.2) _) (fun _ h => h.2) _) (fun _ _ => trivial), below_put3 _ _ _ (below_put1 _ _ HB2.out HB2.out.size HG4.out).1 (below_put1 _ _ HB2.out HB2.out.size HG4.out).2 HG8.out⟩
end Go.Proofs.Ytkjfemkmooepnaa.Walk
