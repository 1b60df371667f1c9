/- ShimMoves answers true. -/
import Derived.Test.YtppdmaeoipeefaaPureShim2
import Derived.Test.YtppdmaeoipeefaaQ3
import Derived.Deep.RegionWith
namespace Go.Proofs.Ytppdmaeoipeefaa.Walk
open Go.RowKit Go.Proofs.YtppdmaeoipeefaaW.PrintWords Go.Proofs.YtppdmaeoipeefaaW.PrintLast Go.Proofs.YtppdmaeoipeefaaW.PrintMore Go.Proofs.Ytppdmaeoipeefaa.Oct Go.Proofs.Ytppdmaeoipeefaa.Q Go.Proofs.Ytppdmaeoipeefaa.Ref Go.Proofs.Ytppdmaeoipeefaa.Giv
set_option linter.unusedVariables false
set_option linter.unusedSimpArgs false

def pushF (l : List S24) (e : S24) : List S24 × Int := if mayP e then (if (l.length : Int) ≥ 8 then ([], 3) else (e :: l, 0)) else ([], 2)
theorem push_f (l : List S24) (hl : l.length ≤ 4096) (a b c : Int) : shim_Push.f l a b c = some (pushF l ⟨a, b, c⟩) := by
  unfold shim_Push.f pushF
  rw [may_f]
  by_cases h : mayP ⟨a, b, c⟩
  · rw [decide_eq_true h, Option.bind_some, if_pos rfl, if_pos h]
    by_cases h8 : (l.length : Int) ≥ 8
    · rw [if_pos h8, if_pos h8]
    · rw [if_neg h8, if_neg h8, Option.bind_some, if_pos (by simp only [List.length_singleton]; omega)]
      rfl
  · rw [decide_eq_false h, Option.bind_some, if_neg (by decide), if_neg h]
theorem refpush_go (l : List S24) (hl : l.length ≤ 4096) : ∀ (m i : Nat) (out : List S24), m + i = l.length → out.length + m ≤ 9000 → Ev (fun k => viaductref03_Push.l0 k l out (i : Int)) (out ++ l.drop i, 0)
  | 0, i, out, hi, ho => by
    obtain rfl : i = l.length := by omega
    refine Ev.step (f := fun _ => some (out, 0)) (fun k => ?_) (by rw [List.drop_length, List.append_nil]; exact Ev.now _)
    simp only [viaductref03_Push.l0]
    rw [if_neg (by omega)]
  | m + 1, i, out, hi, ho => by
    have hlt : i < l.length := by omega
    have ih := refpush_go l hl m (i + 1) (out ++ [l[i]]) (by omega) (by simp; omega)
    refine Ev.step (f := fun k => viaductref03_Push.l0 k l (out ++ [l[i]]) ((i + 1 : Nat) : Int)) (fun k => ?_) (by rw [enc_step l i hlt]; simpa using ih)
    simp only [viaductref03_Push.l0]
    rw [if_pos (by omega), if_pos (by omega), if_pos (by omega), rdT_at l i hlt, wrap64_id (by omega) (by omega)]
    rfl
theorem refpush_ev (l : List S24) (hl : l.length ≤ 4096) (a b c : Int) : Ev (fun k => viaductref03_Push.f k l a b c) (pushF l ⟨a, b, c⟩) := by
  by_cases h : mayP ⟨a, b, c⟩
  · by_cases h8 : (l.length : Int) ≥ 8
    · refine Ev.congr (f := fun _ => some (([] : List S24), (3 : Int))) (fun k => ?_) (by unfold pushF; rw [if_pos h, if_pos h8]; exact Ev.now _)
      unfold viaductref03_Push.f
      rw [refmay_f]
      simp only [decide_eq_true h, Option.bind_some, if_true, h8]
    · have := refpush_go l hl l.length 0 [⟨a, b, c⟩] (by omega) (by simp; omega)
      refine Ev.congr (f := fun k => viaductref03_Push.l0 k l [⟨a, b, c⟩] ((0 : Nat) : Int)) (fun k => ?_) (by unfold pushF; rw [if_pos h, if_neg h8]; simpa using this)
      unfold viaductref03_Push.f
      rw [refmay_f]
      simp only [decide_eq_true h, Option.bind_some, if_true, h8, if_false]
      rfl
  · refine Ev.congr (f := fun _ => some (([] : List S24), (2 : Int))) (fun k => ?_) (by unfold pushF; rw [if_neg h]; exact Ev.now _)
    unfold viaductref03_Push.f
    rw [refmay_f]
    simp only [decide_eq_false h, Option.bind_some, Bool.false_eq_true, if_false]
theorem pop_nil : shim_Pop.f [] = some (0, 0, 0, [], 8) := rfl
theorem pop_cons (e : S24) (r : List S24) (hl : r.length ≤ 9000) : shim_Pop.f (e :: r) = some (e.f0, e.f1, e.f2, r, 0) := by
  unfold shim_Pop.f
  have h0 : rd_T24 (e :: r) 0 = e := rfl
  rw [if_neg (by simp only [List.length_cons]; omega), if_pos (by simp only [List.length_cons]; omega), if_pos (by simp only [List.length_cons]; omega), h0]
  simp only [Option.bind_some, List.drop_succ_cons, List.drop_zero, List.nil_append]
  rw [if_pos (by simp only [List.length_nil]; omega)]

theorem put3 {W : World} {g : Nat} {t : TypeId} {c0 c1 c2 : Value} (v0 v1 v2 : Value) (h : W.heap[g]? = some (.cells #[c0, c1, c2] t (0, 0))) :
    (((W.setCell ⟨g, 0, none⟩ v0).setCell ⟨g, 1, none⟩ v1).setCell ⟨g, 2, none⟩ v2).heap[g]? = some (.cells #[v0, v1, v2] t (0, 0)) := blk_set (blk_set (blk_set h 0 v0) 1 v1) 2 v2
theorem below_put3 {W0 W : World} {g n : Nat} (v0 v1 v2 : Value) (hb : Below n W0 W) (hn : n ≤ W.heap.size) (hg : n ≤ g) : Below n W0 (((W.setCell ⟨g, 0, none⟩ v0).setCell ⟨g, 1, none⟩ v1).setCell ⟨g, 2, none⟩ v2) := by
  have s (W : World) (j : Nat) (u : Value) : W.heap.size ≤ (W.setCell ⟨g, j, none⟩ u).heap.size := (grown_set W g j u).size
  have b1 := hb.grown (grown_set W g 0 v0) hn (by intro k hk; cases hk; exact hg)
  have b2 := b1.grown (grown_set _ g 1 v1) (Nat.le_trans hn (s _ _ _)) (by intro k hk; cases hk; exact hg)
  exact b2.grown (grown_set _ g 2 v2) (Nat.le_trans hn (Nat.le_trans (s _ _ _) (s _ _ _))) (by intro k hk; cases hk; exact hg)
theorem head_cells {W : World} {ad : Addr} {y0 y1 y2 : Int} {r0 : List S24} (h : Kd.C k24 W (some ad) (⟨y0, y1, y2⟩ :: r0 : List S24).length (⟨y0, y1, y2⟩ :: r0)) :
    W.cell? ad = some (.int .i64 y0) ∧ W.cell? ⟨ad.block, ad.off + 1, none⟩ = some (.int .i64 y1) ∧ W.cell? ⟨ad.block, ad.off + 2, none⟩ = some (.int .i64 y2) := by
  obtain ⟨ad', hA, h0, h1, h2⟩ := at_T24 h 0 (by decide) (by simp only [List.length_cons]; omega)
  cases hA
  have e : ad.add ((0 : Int).toNat * 3) = ad := Addr.add_zero' ad
  rw [e] at h0 h1 h2
  exact ⟨h0, h1, h2⟩

def moves.T12 : Bool × List (List Nat × List Nat) := (true, [([], []), ([0], [0]), ([1], [1]), ([2], [2]), ([2], [2]), ([4, 2], [2, 4]), ([5, 2], [2, 5]), ([3, 6, 2], [2, 3, 6]), ([2, 7], [2, 7]), ([8, 2], [8]), ([9], [9]), ([9], [9]), ([11, 9], [9, 11]), ([10, 12, 9, 9], [9, 10, 12]), ([13, 9], [9, 13]), ([9, 14], [9, 14])])
def moves.B12 : List Nat := [0, 1, 3, 7, 7, 23, 55, 127, 255, 511, 1023, 1023, 3071, 8191, 16383, 32767]
theorem moves.tab12 : rtab .any (opsOf Try.f8 12) = moves.T12 := by kernel_rfl
theorem moves.bits12 : waitsOk moves.T12.2 moves.B12 = true := by kernel_rfl
set_option maxRecDepth 20000 in
set_option maxHeartbeats 4000000 in
theorem moves_small {w : World} {A : Option Addr} {c : Nat} {l : List S24} (x0 x1 x2 : Int) (hr : Kd.C k24 w A l.length l) (hc : l.length ≤ c) (hl : l.length ≤ 4096) :
    Calls Try.prog 8 #[.slice A l.length c, .agg #[.int .i64 x0, .int .i64 x1, .int .i64 x2]] w fun e w' => e = .returned (.bool true) ∧ Below w.heap.size w w' := by
  obtain ⟨k0, hk0⟩ := alive03.rounds
  have hk1 := push_f l hl x0 x1 x2
  obtain ⟨k2, hk2⟩ := (refpush_ev l hl x0 x1 x2).rounds
  have hpc : ∃ X Y, pushF l ⟨x0, x1, x2⟩ = (X, Y) ∧ X.length ≤ 4096 ∧ ((Y = 0 ∧ X = ⟨x0, x1, x2⟩ :: l) ∨ Y ≠ 0) := by
    unfold pushF
    split
    · split
      · exact ⟨_, _, rfl, by simp, .inr (by decide)⟩
      · exact ⟨_, _, rfl, by simp only [List.length_cons]; omega, .inl ⟨rfl, rfl⟩⟩
    · exact ⟨_, _, rfl, by simp, .inr (by decide)⟩
  obtain ⟨X, Y, hXY, hXl, hcase⟩ := hpc
  rw [hXY] at hk1 hk2
  obtain ⟨k3, hk3⟩ := (same_ev X hXl).rounds
  have HR := Aside0.mk hr
  have HK0 := Aside0.mk hk0
  have HK1 := Aside0.mk hk1
  have HK2 := Aside0.mk hk2
  have HK3 := Aside0.mk hk3
  have HCASE := Aside0.mk hcase
  clear hr hk0 hk1 hk2 hk3 hXY hcase hXl
  go_enter Try.func8, Try.ntmps8
  go_wp2_with ((with_reducible refine gate_dst (N := 3) rfl ?_); refine box_event ?hg (N := 3) ?hd (cs := #[.int .i64 x0, .int .i64 x1, .int .i64 x2]) (t := 24) ?hr ?_; (case hd => rfl); (case hg => rfl); (case hr => first | (go_simp; done) | (go_simp; rfl)); intro g3 hg w1 hbox hb; have BK := Aside0.mk hbox; have HB := Aside0.mk hb; clear hb hbox hg)
  refine (viaductlaw03_alive.calls k0 true _ HK0.out).mono ?_
  rintro e w2 ⟨rfl, hb⟩
  replace BK := Aside0.mk (blk_below BK.out hb)
  replace HB := Aside0.mk (below_then HB.out HB.out.size hb)
  clear hb
  have hc0_ : w2.cell? ⟨g3, 0, none⟩ = some (.int .i64 x0) := (blk_cell BK.out 0).trans rfl
  have hc1_ : w2.cell? ⟨g3, 1, none⟩ = some (.int .i64 x1) := (blk_cell BK.out 1).trans rfl
  have hc2_ : w2.cell? ⟨g3, 2, none⟩ = some (.int .i64 x2) := (blk_cell BK.out 2).trans rfl
  go_wp2_with fail
  clear hc0_ hc1_ hc2_
  refine (shim_Push.calls A c l x0 x1 x2 X Y _ (Kd.C_below HR.out HB.out) hc HK1.out).mono ?_
  rintro e w3 ⟨v5, rfl, hv, hb⟩
  obtain ⟨A5, c5, e5⟩ := Kd.R_slice hv
  subst e5
  have HC5 := Aside0.mk (Kd.R_reads' hv).2.2
  have hc5 := (Kd.R_reads' hv).2.1
  replace BK := Aside0.mk (blk_below BK.out hb)
  replace HB := Aside0.mk (below_then HB.out HB.out.size hb)
  clear hv hb
  have hc0_ : w3.cell? ⟨g3, 0, none⟩ = some (.int .i64 x0) := (blk_cell BK.out 0).trans rfl
  have hc1_ : w3.cell? ⟨g3, 1, none⟩ = some (.int .i64 x1) := (blk_cell BK.out 1).trans rfl
  have hc2_ : w3.cell? ⟨g3, 2, none⟩ = some (.int .i64 x2) := (blk_cell BK.out 2).trans rfl
  go_wp2_with fail
  clear hc0_ hc1_ hc2_
  refine (viaductref03_Push.calls k2 A c l x0 x1 x2 X Y _ (Kd.C_below HR.out HB.out) hc HK2.out).mono ?_
  rintro e w4 ⟨v7, rfl, hv, hb⟩
  obtain ⟨A7, c7, e7⟩ := Kd.R_slice hv
  subst e7
  have HC7 := Aside0.mk (Kd.R_reads' hv).2.2
  have hc7 := (Kd.R_reads' hv).2.1
  replace HC5 := Aside0.mk (Kd.C_below HC5.out hb)
  replace BK := Aside0.mk (blk_below BK.out hb)
  replace HB := Aside0.mk (below_then HB.out HB.out.size hb)
  clear hv hb
  go_wp2_with fail
  refine (viaductref03_Same.calls k3 A5 c5 X A7 c7 X true _ HC5.out hc5 HC7.out hc7 HK3.out).mono ?_
  rintro e w5 ⟨rfl, ⟨nd, rfl⟩⟩
  have hb : Below w4.heap.size w4 (w4.drewN nd) := pw_below_drewN (Below.refl _ _) nd
  obtain ⟨w5, hw5⟩ : ∃ w5, w4.drewN nd = w5 := ⟨_, rfl⟩
  rw [hw5] at hb ⊢
  clear hw5
  replace HC5 := Aside0.mk (Kd.C_below HC5.out hb)
  replace BK := Aside0.mk (blk_below BK.out hb)
  replace HB := Aside0.mk (below_then HB.out HB.out.size hb)
  clear hb HC7
  go_wp2_with fail
  cases l with
  | nil =>
    refine (shim_Pop.calls A c [] 0 0 0 [] 8 _ (Kd.C_below HR.out HB.out) hc pop_nil).mono ?_
    rintro e w6 ⟨v10, rfl, hv, hb⟩
    obtain ⟨A10, c10, e10⟩ := Kd.R_slice hv
    subst e10
    have HC10 := Aside0.mk (Kd.R_reads' hv).2.2
    have hc10 := (Kd.R_reads' hv).2.1
    replace HC5 := Aside0.mk (Kd.C_below HC5.out hb)
    replace BK := Aside0.mk (blk_below BK.out hb)
    replace HB := Aside0.mk (below_then HB.out HB.out.size hb)
    clear hv hb
    go_wp2_with (first | ((with_reducible refine gate_dst (N := 9) rfl ?_); refine box_event ?hg (N := 9) ?hd (cs := #[.int .i64 0, .int .i64 0, .int .i64 0]) (t := 24) ?hr ?_; (case hd => rfl); (case hg => rfl); (case hr => first | (go_simp; done) | (go_simp; rfl)); intro g9 hg w7 hbox hb; have BN := Aside0.mk hbox; have HB67 := Aside0.mk hb; have HG9 := Aside0.mk (Nat.le_of_eq hg.symm); have HB67s := Aside0.mk HB.out.size; have HNE := Aside0.mk (show g3 ≠ g9 from by have := blk_lt BK.out; have := HG9.out; omega); clear hb hbox hg; have q0_ : w7.cell? ⟨g9, 0, none⟩ = some (.int .i64 0) := (blk_cell BN.out 0).trans rfl; have q1_ : w7.cell? ⟨g9, 1, none⟩ = some (.int .i64 0) := (blk_cell BN.out 1).trans rfl; have q2_ : w7.cell? ⟨g9, 2, none⟩ = some (.int .i64 0) := (blk_cell BN.out 2).trans rfl; have f0_ := blk_frozen BN.out 0; have f1_ := blk_frozen BN.out 1; have f2_ := blk_frozen BN.out 2) | ((with_reducible refine gate_store (t := 24) (p := 9) rfl ?_); refine store_event (t := 24) (p := 9) (v := .tmp 41) (w1 := ((w7.setCell ⟨g9, 0, none⟩ (.int .i64 (0))).setCell ⟨g9, 1, none⟩ (.int .i64 (0))).setCell ⟨g9, 2, none⟩ (.int .i64 (0))) ?hg ?ho ?hn ?hr ?_; (case ho => rfl); (case hg => rfl); (case hn => rfl); (case hr => first | (go_simp; done) | (go_simp; rfl)); intro w8 hw8; clear q0_ q1_ q2_ f0_ f1_ f2_; have hb68 : Below w6.heap.size w6 w8 := (by rw [hw8]; exact below_put3 _ _ _ HB67.out HB67.out.size HG9.out); have hb8 : Below w.heap.size w w8 := (by have := HB67.out.size; have h2 := HB.out.size; rw [hw8]; exact below_put3 _ _ _ (below_then HB.out HB.out.size HB67.out) (Nat.le_trans h2 this) (Nat.le_trans h2 HG9.out)); have BN8 : Aside0 (w8.heap[g9]? = some (.cells #[.int .i64 (0), .int .i64 (0), .int .i64 (0)] 24 (0, 0))) := (by rw [hw8]; exact ⟨put3 _ _ _ BN.out⟩); clear BN hw8; have BN := BN8; clear BN8; have HC5' := Aside0.mk (Kd.C_below HC5.out hb68); have HC10' := Aside0.mk (Kd.C_below HC10.out hb68); have BK' := Aside0.mk (blk_below BK.out hb68); clear HC5 HC10 BK HB; have HC5 := HC5'; have HC10 := HC10'; have BK := BK'; have HB := Aside0.mk hb8; have HG68 := Aside0.mk hb68; clear HC5' HC10' BK' hb8 hb68 HB67; have n0_ : w8.cell? ⟨g9, 0, none⟩ = some (.int .i64 (0)) := (blk_cell BN.out 0).trans rfl; have n1_ : w8.cell? ⟨g9, 1, none⟩ = some (.int .i64 (0)) := (blk_cell BN.out 1).trans rfl; have n2_ : w8.cell? ⟨g9, 2, none⟩ = some (.int .i64 (0)) := (blk_cell BN.out 2).trans rfl))
    go_ret
    exact ⟨rfl, HB.out⟩
  | cons e0 r0 =>
    obtain ⟨y0, y1, y2⟩ := e0
    have hr0 : r0.length ≤ 4096 := by simp only [List.length_cons] at hl; omega
    obtain ⟨ad, hA, _⟩ := at_T24 HR.out 0 (by decide) (by simp only [List.length_cons]; omega)
    subst hA
    obtain ⟨k4, hk4⟩ := (same_ev r0 hr0).rounds
    obtain ⟨k5, hk5⟩ := (same_ev (⟨y0, y1, y2⟩ :: r0) hl).rounds
    have HK4 := Aside0.mk hk4
    have HK5 := Aside0.mk hk5
    obtain ⟨i24, hi24, _, hs24, _⟩ := info_parts info24
    have hs71 := cut_from (P := Try.prog) 22 24 .i64 Try.underlying22 hi24 3 hs24 (some ad) (r0.length + 1) c 1 (by omega) (by omega)
    have hCD := Kd.C_drop HR.out (m := 1) (c := c) (by simp only [List.length_cons]; omega) hc
    have e3 : k24.sz = 3 := rfl
    rw [e3] at hCD
    obtain ⟨P2, hP2⟩ : ∃ P2, (if c = 1 then some ad else (some ad).map (·.add (1 * 3))) = P2 := ⟨_, rfl⟩
    rw [hP2] at hCD
    have e11 : (1 : Int).toNat = 1 := rfl
    rw [e11, hP2] at hs71
    obtain ⟨C2, hC2⟩ : ∃ C2, c - 1 = C2 := ⟨_, rfl⟩
    rw [hC2, show r0.length + 1 - 1 = r0.length from rfl] at hs71
    have hcd : r0.length ≤ C2 := by simp only [List.length_cons] at hc; omega
    have HCD0 : Aside0 (Kd.C k24 w P2 r0.length r0) := ⟨hCD⟩
    have HS71 := Aside0.mk hs71
    clear hk4 hk5 hi24 hs24 hs71 hCD e3 e11 hP2 hC2
    have hpop := pop_cons ⟨y0, y1, y2⟩ r0 (by simp only [List.length_cons] at hl; omega)
    have HPOP := Aside0.mk hpop
    clear hpop
    refine (shim_Pop.calls (some ad) c (⟨y0, y1, y2⟩ :: r0) y0 y1 y2 r0 0 _ (Kd.C_below HR.out HB.out) hc HPOP.out).mono ?_
    rintro e w6 ⟨v10, rfl, hv, hb⟩
    obtain ⟨A10, c10, e10⟩ := Kd.R_slice hv
    subst e10
    have HC10 := Aside0.mk (Kd.R_reads' hv).2.2
    have hc10 := (Kd.R_reads' hv).2.1
    replace HC5 := Aside0.mk (Kd.C_below HC5.out hb)
    replace BK := Aside0.mk (blk_below BK.out hb)
    replace HB := Aside0.mk (below_then HB.out HB.out.size hb)
    clear hv hb
    go_wp2_with (first | ((with_reducible refine gate_dst (N := 9) rfl ?_); refine box_event ?hg (N := 9) ?hd (cs := #[.int .i64 0, .int .i64 0, .int .i64 0]) (t := 24) ?hr ?_; (case hd => rfl); (case hg => rfl); (case hr => first | (go_simp; done) | (go_simp; rfl)); intro g9 hg w7 hbox hb; have BN := Aside0.mk hbox; have HB67 := Aside0.mk hb; have HG9 := Aside0.mk (Nat.le_of_eq hg.symm); have HB67s := Aside0.mk HB.out.size; have HNE := Aside0.mk (show g3 ≠ g9 from by have := blk_lt BK.out; have := HG9.out; omega); clear hb hbox hg; have q0_ : w7.cell? ⟨g9, 0, none⟩ = some (.int .i64 0) := (blk_cell BN.out 0).trans rfl; have q1_ : w7.cell? ⟨g9, 1, none⟩ = some (.int .i64 0) := (blk_cell BN.out 1).trans rfl; have q2_ : w7.cell? ⟨g9, 2, none⟩ = some (.int .i64 0) := (blk_cell BN.out 2).trans rfl; have f0_ := blk_frozen BN.out 0; have f1_ := blk_frozen BN.out 1; have f2_ := blk_frozen BN.out 2) | ((with_reducible refine gate_store (t := 24) (p := 9) rfl ?_); refine store_event (t := 24) (p := 9) (v := .tmp 41) (w1 := ((w7.setCell ⟨g9, 0, none⟩ (.int .i64 (y0))).setCell ⟨g9, 1, none⟩ (.int .i64 (y1))).setCell ⟨g9, 2, none⟩ (.int .i64 (y2))) ?hg ?ho ?hn ?hr ?_; (case ho => rfl); (case hg => rfl); (case hn => rfl); (case hr => first | (go_simp; done) | (go_simp; rfl)); intro w8 hw8; clear q0_ q1_ q2_ f0_ f1_ f2_; have hb68 : Below w6.heap.size w6 w8 := (by rw [hw8]; exact below_put3 _ _ _ HB67.out HB67.out.size HG9.out); have hb8 : Below w.heap.size w w8 := (by have := HB67.out.size; have h2 := HB.out.size; rw [hw8]; exact below_put3 _ _ _ (below_then HB.out HB.out.size HB67.out) (Nat.le_trans h2 this) (Nat.le_trans h2 HG9.out)); have BN8 : Aside0 (w8.heap[g9]? = some (.cells #[.int .i64 (y0), .int .i64 (y1), .int .i64 (y2)] 24 (0, 0))) := (by rw [hw8]; exact ⟨put3 _ _ _ BN.out⟩); clear BN hw8; have BN := BN8; clear BN8; have HC5' := Aside0.mk (Kd.C_below HC5.out hb68); have HC10' := Aside0.mk (Kd.C_below HC10.out hb68); have BK' := Aside0.mk (blk_below BK.out hb68); clear HC5 HC10 BK HB; have HC5 := HC5'; have HC10 := HC10'; have BK := BK'; have HB := Aside0.mk hb8; have HG68 := Aside0.mk hb68; clear HC5' HC10' BK' hb8 hb68 HB67; have n0_ : w8.cell? ⟨g9, 0, none⟩ = some (.int .i64 (y0)) := (blk_cell BN.out 0).trans rfl; have n1_ : w8.cell? ⟨g9, 1, none⟩ = some (.int .i64 (y1)) := (blk_cell BN.out 1).trans rfl; have n2_ : w8.cell? ⟨g9, 2, none⟩ = some (.int .i64 (y2)) := (blk_cell BN.out 2).trans rfl))
    clear n0_ n1_ n2_
    have hs71 := HS71.out
    have HB8 := Aside0.mk (below_drew HB.out)
    have HCl := Aside0.mk (Kd.C_below HR.out HB8.out)
    have HCD := Aside0.mk (Kd.C_below HCD0.out HB8.out)
    have hbd : Below w8.heap.size w8 w8.drew := below_drew (Below.refl _ _)
    replace BN := Aside0.mk (blk_below BN.out hbd)
    replace BK := Aside0.mk (blk_below BK.out hbd)
    replace HC10 := Aside0.mk (Kd.C_below HC10.out hbd)
    replace HC5 := Aside0.mk (Kd.C_below HC5.out hbd)
    clear HB hbd HG68
    refine start_ (n := 16) (S := fun w' => True) (ds := []) #[false, false, false, false, false, false, false, false, false, false, false, false, false, false, false, false] (by kernel_rfl) rfl rfl trivial (fun hHeld => ?_)
    refine with_tabW moves.tab12 moves.bits12 (fun HT_ HW_ => ?_)
    refine inv_at [0, 1, 2, 3, 4, 5, 6, 7, 8, 9, 10, 11, 12, 13, 14, 15] (fun a0_ b a w' => a = putSel a0_ b [(0, 59, .int .i64 0), (1, 60, .bool false), (2, 61, .bool false), (3, 62, .agg #[.int .i64 y0, .int .i64 y1, .int .i64 y2]), (4, 63, .slice (some ad) (r0.length + 1) c), (5, 64, .pointer (some ad)), (6, 65, .agg #[.int .i64 y0, .int .i64 y1, .int .i64 y2]), (7, 66, .bool false), (8, 67, .bool false), (9, 68, .bool false), (10, 69, .slice A10 r0.length c10), (11, 70, .slice (some ad) (r0.length + 1) c), (12, 71, .slice P2 r0.length C2), (13, 72, .bool true), (14, 73, .bool false), (15, 74, .bool false)] ∧ (Below w.heap.size w w') ∧ (Kd.C k24 w' (some ad) (⟨y0, y1, y2⟩ :: r0 : List S24).length (⟨y0, y1, y2⟩ :: r0)) ∧ (Kd.C k24 w' P2 r0.length r0) ∧ (Kd.C k24 w' A10 r0.length r0) ∧ (Kd.C k24 w' A5 X.length X) ∧ (w'.heap[g9]? = some (.cells #[.int .i64 y0, .int .i64 y1, .int .i64 y2] 24 (0, 0))) ∧ (w'.heap[g3]? = some (.cells #[.int .i64 x0, .int .i64 x1, .int .i64 x2] 24 (0, 0)))) HT_.out HW_.out (by kernel_rfl) (by kernel_rfl) ?_ ?_ ?_
    · exact ⟨by simp only [putSel, Bool.false_eq_true, if_false], HB8.out, HCl.out, HCD.out, HC10.out, HC5.out, BN.out, BK.out⟩
    · skip
      clear BK BN HB8 HC10 HC5 HCD HCl
      refine steps_cons ?_ ?_
      · rintro b a w' ⟨ha, Q_HB8, Q_HCl, Q_HCD, Q_HC10, Q_HC5, Q_BN, Q_BK⟩ hb_ hon hoff
        refine ⟨_, rfl, fun K hK => ?_⟩
        have e11 : a.tmps[11]? = some (.int .i64 0) := by rw [ha]; exact (putSel_off rfl).trans rfl
        replace ha := Aside0.mk ha
        have HB8 := Aside0.mk Q_HB8
        have HCl := Aside0.mk Q_HCl
        have HCD := Aside0.mk Q_HCD
        have HC10 := Aside0.mk Q_HC10
        have HC5 := Aside0.mk Q_HC5
        have BN := Aside0.mk Q_BN
        have BK := Aside0.mk Q_BK
        refine value_ (w1 := w') (v := .int .i64 0) (by rfl) rfl ?_ ?_
        · go_simp
          (try simp only [i64_w])
          try rfl
          all_goals (try (unfold wrap64; omega))
        refine hK.out _ _ ⟨(by rw [ha.out]; exact putSel_upk 0 hb_ rfl rfl rfl), Q_HB8, Q_HCl, Q_HCD, Q_HC10, Q_HC5, Q_BN, Q_BK⟩
      refine steps_cons ?_ ?_
      · rintro b a w' ⟨ha, Q_HB8, Q_HCl, Q_HCD, Q_HC10, Q_HC5, Q_BN, Q_BK⟩ hb_ hon hoff
        refine ⟨_, rfl, fun K hK => ?_⟩
        have e59 : a.tmps[59]? = some (.int .i64 0) := by rw [ha]; exact putSel_on (e := (0, 59, .int .i64 0)) 0 rfl rfl (hon 0 (by kernel_rfl)) rfl
        replace ha := Aside0.mk ha
        have HB8 := Aside0.mk Q_HB8
        have HCl := Aside0.mk Q_HCl
        have HCD := Aside0.mk Q_HCD
        have HC10 := Aside0.mk Q_HC10
        have HC5 := Aside0.mk Q_HC5
        have BN := Aside0.mk Q_BN
        have BK := Aside0.mk Q_BK
        refine value_ (w1 := w') (v := .bool false) (by rfl) rfl ?_ ?_
        · go_simp
          (try simp only [i64_w])
          try rfl
          all_goals (try (unfold wrap64; omega))
        refine hK.out _ _ ⟨(by rw [ha.out]; exact putSel_upk 1 hb_ rfl rfl rfl), Q_HB8, Q_HCl, Q_HCD, Q_HC10, Q_HC5, Q_BN, Q_BK⟩
      refine steps_cons ?_ ?_
      · rintro b a w' ⟨ha, Q_HB8, Q_HCl, Q_HCD, Q_HC10, Q_HC5, Q_BN, Q_BK⟩ hb_ hon hoff
        refine ⟨_, rfl, fun K hK => ?_⟩
        have e60 : a.tmps[60]? = some (.bool false) := by rw [ha]; exact putSel_on (e := (1, 60, .bool false)) 1 rfl rfl (hon 1 (by kernel_rfl)) rfl
        replace ha := Aside0.mk ha
        have HB8 := Aside0.mk Q_HB8
        have HCl := Aside0.mk Q_HCl
        have HCD := Aside0.mk Q_HCD
        have HC10 := Aside0.mk Q_HC10
        have HC5 := Aside0.mk Q_HC5
        have BN := Aside0.mk Q_BN
        have BK := Aside0.mk Q_BK
        refine value_ (w1 := w') (v := .bool false) (by rfl) rfl ?_ ?_
        · go_simp
          (try simp only [i64_w])
          try rfl
          all_goals (try (unfold wrap64; omega))
        refine hK.out _ _ ⟨(by rw [ha.out]; exact putSel_upk 2 hb_ rfl rfl rfl), Q_HB8, Q_HCl, Q_HCD, Q_HC10, Q_HC5, Q_BN, Q_BK⟩
      refine steps_cons ?_ ?_
      · rintro b a w' ⟨ha, Q_HB8, Q_HCl, Q_HCD, Q_HC10, Q_HC5, Q_BN, Q_BK⟩ hb_ hon hoff
        refine ⟨_, rfl, fun K hK => ?_⟩
        have e9 : a.tmps[9]? = some (.pointer (some ⟨g9, 0, none⟩)) := by rw [ha]; exact (putSel_off rfl).trans rfl
        have e61 : a.tmps[61]? = some (.bool false) := by rw [ha]; exact putSel_on (e := (2, 61, .bool false)) 2 rfl rfl (hon 2 (by kernel_rfl)) rfl
        replace ha := Aside0.mk ha
        have HB8 := Aside0.mk Q_HB8
        have HCl := Aside0.mk Q_HCl
        have HCD := Aside0.mk Q_HCD
        have HC10 := Aside0.mk Q_HC10
        have HC5 := Aside0.mk Q_HC5
        have BN := Aside0.mk Q_BN
        have BK := Aside0.mk Q_BK
        have hc0_ : w'.cell? ⟨g9, 0, none⟩ = some (.int .i64 y0) := (blk_cell BN.out 0).trans rfl
        have hc1_ : w'.cell? ⟨g9, 1, none⟩ = some (.int .i64 y1) := (blk_cell BN.out 1).trans rfl
        have hc2_ : w'.cell? ⟨g9, 2, none⟩ = some (.int .i64 y2) := (blk_cell BN.out 2).trans rfl
        refine value_ (w1 := w') (v := .agg #[.int .i64 y0, .int .i64 y1, .int .i64 y2]) (wanted_on rfl rfl rfl (e61.trans (by first | rfl | (simp [*]; done)))) rfl ?_ ?_
        · go_simp
          (try simp only [i64_w])
          try rfl
          all_goals (try (unfold wrap64; omega))
        refine hK.out _ _ ⟨(by rw [ha.out]; exact putSel_upk 3 hb_ rfl rfl rfl), Q_HB8, Q_HCl, Q_HCD, Q_HC10, Q_HC5, Q_BN, Q_BK⟩
      refine steps_cons ?_ ?_
      · rintro b a w' ⟨ha, Q_HB8, Q_HCl, Q_HCD, Q_HC10, Q_HC5, Q_BN, Q_BK⟩ hb_ hon hoff
        refine ⟨_, rfl, fun K hK => ?_⟩
        have e0 : a.tmps[0]? = some (.slice (some ad) (r0.length + 1) c) := by rw [ha]; exact (putSel_off rfl).trans rfl
        have e61 : a.tmps[61]? = some (.bool false) := by rw [ha]; exact putSel_on (e := (2, 61, .bool false)) 2 rfl rfl (hon 2 (by kernel_rfl)) rfl
        replace ha := Aside0.mk ha
        have HB8 := Aside0.mk Q_HB8
        have HCl := Aside0.mk Q_HCl
        have HCD := Aside0.mk Q_HCD
        have HC10 := Aside0.mk Q_HC10
        have HC5 := Aside0.mk Q_HC5
        have BN := Aside0.mk Q_BN
        have BK := Aside0.mk Q_BK
        refine value_ (w1 := w') (v := .slice (some ad) (r0.length + 1) c) (wanted_on rfl rfl rfl (e61.trans (by first | rfl | (simp [*]; done)))) rfl ?_ ?_
        · go_simp
          (try simp only [i64_w])
          try rfl
          all_goals (try (unfold wrap64; omega))
        refine hK.out _ _ ⟨(by rw [ha.out]; exact putSel_upk 4 hb_ rfl rfl rfl), Q_HB8, Q_HCl, Q_HCD, Q_HC10, Q_HC5, Q_BN, Q_BK⟩
      refine steps_cons ?_ ?_
      · rintro b a w' ⟨ha, Q_HB8, Q_HCl, Q_HCD, Q_HC10, Q_HC5, Q_BN, Q_BK⟩ hb_ hon hoff
        refine ⟨_, rfl, fun K hK => ?_⟩
        have e63 : a.tmps[63]? = some (.slice (some ad) (r0.length + 1) c) := by rw [ha]; exact putSel_on (e := (4, 63, .slice (some ad) (r0.length + 1) c)) 4 rfl rfl (hon 4 (by kernel_rfl)) rfl
        have e61 : a.tmps[61]? = some (.bool false) := by rw [ha]; exact putSel_on (e := (2, 61, .bool false)) 2 rfl rfl (hon 2 (by kernel_rfl)) rfl
        replace ha := Aside0.mk ha
        have HB8 := Aside0.mk Q_HB8
        have HCl := Aside0.mk Q_HCl
        have HCD := Aside0.mk Q_HCD
        have HC10 := Aside0.mk Q_HC10
        have HC5 := Aside0.mk Q_HC5
        have BN := Aside0.mk Q_BN
        have BK := Aside0.mk Q_BK
        refine value_ (w1 := w') (v := .pointer (some ad)) (wanted_on rfl rfl rfl (e61.trans (by first | rfl | (simp [*]; done)))) rfl ?_ ?_
        · go_simp
          (try simp only [i64_w])
          try rfl
          all_goals (try (unfold wrap64; omega))
        refine hK.out _ _ ⟨(by rw [ha.out]; exact putSel_upk 5 hb_ rfl rfl rfl), Q_HB8, Q_HCl, Q_HCD, Q_HC10, Q_HC5, Q_BN, Q_BK⟩
      refine steps_cons ?_ ?_
      · rintro b a w' ⟨ha, Q_HB8, Q_HCl, Q_HCD, Q_HC10, Q_HC5, Q_BN, Q_BK⟩ hb_ hon hoff
        refine ⟨_, rfl, fun K hK => ?_⟩
        have e64 : a.tmps[64]? = some (.pointer (some ad)) := by rw [ha]; exact putSel_on (e := (5, 64, .pointer (some ad))) 5 rfl rfl (hon 5 (by kernel_rfl)) rfl
        have e61 : a.tmps[61]? = some (.bool false) := by rw [ha]; exact putSel_on (e := (2, 61, .bool false)) 2 rfl rfl (hon 2 (by kernel_rfl)) rfl
        replace ha := Aside0.mk ha
        have HB8 := Aside0.mk Q_HB8
        have HCl := Aside0.mk Q_HCl
        have HCD := Aside0.mk Q_HCD
        have HC10 := Aside0.mk Q_HC10
        have HC5 := Aside0.mk Q_HC5
        have BN := Aside0.mk Q_BN
        have BK := Aside0.mk Q_BK
        obtain ⟨hx0_, hx1_, hx2_⟩ := head_cells HCl.out
        refine value_ (w1 := w') (v := .agg #[.int .i64 y0, .int .i64 y1, .int .i64 y2]) (wanted_on rfl rfl rfl (e61.trans (by first | rfl | (simp [*]; done)))) rfl ?_ ?_
        · go_simp
          (try simp only [i64_w])
          try rfl
          all_goals (try (unfold wrap64; omega))
        refine hK.out _ _ ⟨(by rw [ha.out]; exact putSel_upk 6 hb_ rfl rfl rfl), Q_HB8, Q_HCl, Q_HCD, Q_HC10, Q_HC5, Q_BN, Q_BK⟩
      refine steps_cons ?_ ?_
      · rintro b a w' ⟨ha, Q_HB8, Q_HCl, Q_HCD, Q_HC10, Q_HC5, Q_BN, Q_BK⟩ hb_ hon hoff
        refine ⟨_, rfl, fun K hK => ?_⟩
        have e62 : a.tmps[62]? = some (.agg #[.int .i64 y0, .int .i64 y1, .int .i64 y2]) := by rw [ha]; exact putSel_on (e := (3, 62, .agg #[.int .i64 y0, .int .i64 y1, .int .i64 y2])) 3 rfl rfl (hon 3 (by kernel_rfl)) rfl
        have e65 : a.tmps[65]? = some (.agg #[.int .i64 y0, .int .i64 y1, .int .i64 y2]) := by rw [ha]; exact putSel_on (e := (6, 65, .agg #[.int .i64 y0, .int .i64 y1, .int .i64 y2])) 6 rfl rfl (hon 6 (by kernel_rfl)) rfl
        have e61 : a.tmps[61]? = some (.bool false) := by rw [ha]; exact putSel_on (e := (2, 61, .bool false)) 2 rfl rfl (hon 2 (by kernel_rfl)) rfl
        replace ha := Aside0.mk ha
        have HB8 := Aside0.mk Q_HB8
        have HCl := Aside0.mk Q_HCl
        have HCD := Aside0.mk Q_HCD
        have HC10 := Aside0.mk Q_HC10
        have HC5 := Aside0.mk Q_HC5
        have BN := Aside0.mk Q_BN
        have BK := Aside0.mk Q_BK
        refine value_ (w1 := w') (v := .bool false) (wanted_on rfl rfl rfl (e61.trans (by first | rfl | (simp [*]; done)))) rfl ?_ ?_
        · go_simp
          (try simp only [i64_w])
          try rfl
          all_goals (try (unfold wrap64; omega))
        refine hK.out _ _ ⟨(by rw [ha.out]; exact putSel_upk 7 hb_ rfl rfl rfl), Q_HB8, Q_HCl, Q_HCD, Q_HC10, Q_HC5, Q_BN, Q_BK⟩
      refine steps_cons ?_ ?_
      · rintro b a w' ⟨ha, Q_HB8, Q_HCl, Q_HCD, Q_HC10, Q_HC5, Q_BN, Q_BK⟩ hb_ hon hoff
        refine ⟨_, rfl, fun K hK => ?_⟩
        have e61 : a.tmps[61]? = some (.bool false) := by rw [ha]; exact putSel_on (e := (2, 61, .bool false)) 2 rfl rfl (hon 2 (by kernel_rfl)) rfl
        have e66 : a.tmps[66]? = some (.bool false) := by rw [ha]; exact putSel_on (e := (7, 66, .bool false)) 7 rfl rfl (hon 7 (by kernel_rfl)) rfl
        replace ha := Aside0.mk ha
        have HB8 := Aside0.mk Q_HB8
        have HCl := Aside0.mk Q_HCl
        have HCD := Aside0.mk Q_HCD
        have HC10 := Aside0.mk Q_HC10
        have HC5 := Aside0.mk Q_HC5
        have BN := Aside0.mk Q_BN
        have BK := Aside0.mk Q_BK
        refine value_ (w1 := w') (v := .bool false) (by rfl) rfl ?_ ?_
        · go_simp
          (try simp only [i64_w])
          try rfl
          all_goals (try (unfold wrap64; omega))
        refine hK.out _ _ ⟨(by rw [ha.out]; exact putSel_upk 8 hb_ rfl rfl rfl), Q_HB8, Q_HCl, Q_HCD, Q_HC10, Q_HC5, Q_BN, Q_BK⟩
      refine steps_cons ?_ ?_
      · rintro b a w' ⟨ha, Q_HB8, Q_HCl, Q_HCD, Q_HC10, Q_HC5, Q_BN, Q_BK⟩ hb_ hon hoff
        refine ⟨_, rfl, fun K hK => ?_⟩
        have e67 : a.tmps[67]? = some (.bool false) := by rw [ha]; exact putSel_on (e := (8, 67, .bool false)) 8 rfl rfl (hon 8 (by kernel_rfl)) rfl
        replace ha := Aside0.mk ha
        have HB8 := Aside0.mk Q_HB8
        have HCl := Aside0.mk Q_HCl
        have HCD := Aside0.mk Q_HCD
        have HC10 := Aside0.mk Q_HC10
        have HC5 := Aside0.mk Q_HC5
        have BN := Aside0.mk Q_BN
        have BK := Aside0.mk Q_BK
        refine value_ (w1 := w') (v := .bool false) (by rfl) rfl ?_ ?_
        · go_simp
          (try simp only [i64_w])
          try rfl
          all_goals (try (unfold wrap64; omega))
        refine hK.out _ _ ⟨(by rw [ha.out]; exact putSel_upk 9 hb_ rfl rfl rfl), Q_HB8, Q_HCl, Q_HCD, Q_HC10, Q_HC5, Q_BN, Q_BK⟩
      refine steps_cons ?_ ?_
      · rintro b a w' ⟨ha, Q_HB8, Q_HCl, Q_HCD, Q_HC10, Q_HC5, Q_BN, Q_BK⟩ hb_ hon hoff
        refine ⟨_, rfl, fun K hK => ?_⟩
        have e10 : a.tmps[10]? = some (.slice A10 r0.length c10) := by rw [ha]; exact (putSel_off rfl).trans rfl
        have e68 : a.tmps[68]? = some (.bool false) := by rw [ha]; exact putSel_on (e := (9, 68, .bool false)) 9 rfl rfl (hon 9 (by kernel_rfl)) rfl
        replace ha := Aside0.mk ha
        have HB8 := Aside0.mk Q_HB8
        have HCl := Aside0.mk Q_HCl
        have HCD := Aside0.mk Q_HCD
        have HC10 := Aside0.mk Q_HC10
        have HC5 := Aside0.mk Q_HC5
        have BN := Aside0.mk Q_BN
        have BK := Aside0.mk Q_BK
        refine value_ (w1 := w') (v := .slice A10 r0.length c10) (wanted_on rfl rfl rfl (e68.trans (by first | rfl | (simp [*]; done)))) rfl ?_ ?_
        · go_simp
          (try simp only [i64_w])
          try rfl
          all_goals (try (unfold wrap64; omega))
        refine hK.out _ _ ⟨(by rw [ha.out]; exact putSel_upk 10 hb_ rfl rfl rfl), Q_HB8, Q_HCl, Q_HCD, Q_HC10, Q_HC5, Q_BN, Q_BK⟩
      refine steps_cons ?_ ?_
      · rintro b a w' ⟨ha, Q_HB8, Q_HCl, Q_HCD, Q_HC10, Q_HC5, Q_BN, Q_BK⟩ hb_ hon hoff
        refine ⟨_, rfl, fun K hK => ?_⟩
        have e0 : a.tmps[0]? = some (.slice (some ad) (r0.length + 1) c) := by rw [ha]; exact (putSel_off rfl).trans rfl
        have e68 : a.tmps[68]? = some (.bool false) := by rw [ha]; exact putSel_on (e := (9, 68, .bool false)) 9 rfl rfl (hon 9 (by kernel_rfl)) rfl
        replace ha := Aside0.mk ha
        have HB8 := Aside0.mk Q_HB8
        have HCl := Aside0.mk Q_HCl
        have HCD := Aside0.mk Q_HCD
        have HC10 := Aside0.mk Q_HC10
        have HC5 := Aside0.mk Q_HC5
        have BN := Aside0.mk Q_BN
        have BK := Aside0.mk Q_BK
        refine value_ (w1 := w') (v := .slice (some ad) (r0.length + 1) c) (wanted_on rfl rfl rfl (e68.trans (by first | rfl | (simp [*]; done)))) rfl ?_ ?_
        · go_simp
          (try simp only [i64_w])
          try rfl
          all_goals (try (unfold wrap64; omega))
        refine hK.out _ _ ⟨(by rw [ha.out]; exact putSel_upk 11 hb_ rfl rfl rfl), Q_HB8, Q_HCl, Q_HCD, Q_HC10, Q_HC5, Q_BN, Q_BK⟩
      refine steps_cons ?_ ?_
      · rintro b a w' ⟨ha, Q_HB8, Q_HCl, Q_HCD, Q_HC10, Q_HC5, Q_BN, Q_BK⟩ hb_ hon hoff
        refine ⟨_, rfl, fun K hK => ?_⟩
        have e70 : a.tmps[70]? = some (.slice (some ad) (r0.length + 1) c) := by rw [ha]; exact putSel_on (e := (11, 70, .slice (some ad) (r0.length + 1) c)) 11 rfl rfl (hon 11 (by kernel_rfl)) rfl
        have e68 : a.tmps[68]? = some (.bool false) := by rw [ha]; exact putSel_on (e := (9, 68, .bool false)) 9 rfl rfl (hon 9 (by kernel_rfl)) rfl
        replace ha := Aside0.mk ha
        have HB8 := Aside0.mk Q_HB8
        have HCl := Aside0.mk Q_HCl
        have HCD := Aside0.mk Q_HCD
        have HC10 := Aside0.mk Q_HC10
        have HC5 := Aside0.mk Q_HC5
        have BN := Aside0.mk Q_BN
        have BK := Aside0.mk Q_BK
        refine value_ (w1 := w') (v := .slice P2 r0.length C2) (wanted_on rfl rfl rfl (e68.trans (by first | rfl | (simp [*]; done)))) rfl ?_ ?_
        · go_simp
          (try simp only [i64_w])
          try rfl
          all_goals (try (unfold wrap64; omega))
        refine hK.out _ _ ⟨(by rw [ha.out]; exact putSel_upk 12 hb_ rfl rfl rfl), Q_HB8, Q_HCl, Q_HCD, Q_HC10, Q_HC5, Q_BN, Q_BK⟩
      refine steps_cons ?_ ?_
      · rintro b a w' ⟨ha, Q_HB8, Q_HCl, Q_HCD, Q_HC10, Q_HC5, Q_BN, Q_BK⟩ hb_ hon hoff
        refine ⟨_, rfl, fun K hK => ?_⟩
        have e69 : a.tmps[69]? = some (.slice A10 r0.length c10) := by rw [ha]; exact putSel_on (e := (10, 69, .slice A10 r0.length c10)) 10 rfl rfl (hon 10 (by kernel_rfl)) rfl
        have e71 : a.tmps[71]? = some (.slice P2 r0.length C2) := by rw [ha]; exact putSel_on (e := (12, 71, .slice P2 r0.length C2)) 12 rfl rfl (hon 12 (by kernel_rfl)) rfl
        have e68 : a.tmps[68]? = some (.bool false) := by rw [ha]; exact putSel_on (e := (9, 68, .bool false)) 9 rfl rfl (hon 9 (by kernel_rfl)) rfl
        replace ha := Aside0.mk ha
        have HB8 := Aside0.mk Q_HB8
        have HCl := Aside0.mk Q_HCl
        have HCD := Aside0.mk Q_HCD
        have HC10 := Aside0.mk Q_HC10
        have HC5 := Aside0.mk Q_HC5
        have BN := Aside0.mk Q_BN
        have BK := Aside0.mk Q_BK
        refine goes_ Try.func16 (by kernel_rfl) rfl #[.slice A10 r0.length c10, .slice P2 r0.length C2] (wanted_on rfl rfl rfl (e68.trans (by first | rfl | (simp [*]; done)))) rfl rfl (by first | (simp only [List.map_toArray, List.map_cons, List.map_nil, Act.eval, Array.getD_eq_getD_getElem?, Option.getD_some, e69, e71, e68]; done) | (simp only [List.map_toArray, List.map_cons, List.map_nil, Act.eval, Array.getD_eq_getD_getElem?, Option.getD_some, e69, e71, e68]; rfl)) ?_
        refine (viaductref03_Same.calls k4 A10 c10 r0 P2 C2 r0 true _ HC10.out hc10 HCD.out hcd HK4.out).mono ?_
        rintro e w2_ ⟨rfl, ⟨nd, rfl⟩⟩
        have hb : Below w'.heap.size w' (w'.drewN nd) := pw_below_drewN (Below.refl _ _) nd
        refine ⟨_, rfl, ?_⟩
        refine hK.out _ _ ⟨(by rw [ha.out]; exact putSel_upk 13 hb_ rfl rfl rfl), below_then HB8.out HB8.out.size hb, Kd.C_below HCl.out hb, Kd.C_below HCD.out hb, Kd.C_below HC10.out hb, Kd.C_below HC5.out hb, blk_below BN.out hb, blk_below BK.out hb⟩
      refine steps_cons ?_ ?_
      · rintro b a w' ⟨ha, Q_HB8, Q_HCl, Q_HCD, Q_HC10, Q_HC5, Q_BN, Q_BK⟩ hb_ hon hoff
        refine ⟨_, rfl, fun K hK => ?_⟩
        have e72 : a.tmps[72]? = some (.bool true) := by rw [ha]; exact putSel_on (e := (13, 72, .bool true)) 13 rfl rfl (hon 13 (by kernel_rfl)) rfl
        have e68 : a.tmps[68]? = some (.bool false) := by rw [ha]; exact putSel_on (e := (9, 68, .bool false)) 9 rfl rfl (hon 9 (by kernel_rfl)) rfl
        replace ha := Aside0.mk ha
        have HB8 := Aside0.mk Q_HB8
        have HCl := Aside0.mk Q_HCl
        have HCD := Aside0.mk Q_HCD
        have HC10 := Aside0.mk Q_HC10
        have HC5 := Aside0.mk Q_HC5
        have BN := Aside0.mk Q_BN
        have BK := Aside0.mk Q_BK
        refine value_ (w1 := w') (v := .bool false) (wanted_on rfl rfl rfl (e68.trans (by first | rfl | (simp [*]; done)))) rfl ?_ ?_
        · go_simp
          (try simp only [i64_w])
          try rfl
          all_goals (try (unfold wrap64; omega))
        refine hK.out _ _ ⟨(by rw [ha.out]; exact putSel_upk 14 hb_ rfl rfl rfl), Q_HB8, Q_HCl, Q_HCD, Q_HC10, Q_HC5, Q_BN, Q_BK⟩
      refine steps_cons ?_ ?_
      · rintro b a w' ⟨ha, Q_HB8, Q_HCl, Q_HCD, Q_HC10, Q_HC5, Q_BN, Q_BK⟩ hb_ hon hoff
        refine ⟨_, rfl, fun K hK => ?_⟩
        have e68 : a.tmps[68]? = some (.bool false) := by rw [ha]; exact putSel_on (e := (9, 68, .bool false)) 9 rfl rfl (hon 9 (by kernel_rfl)) rfl
        have e73 : a.tmps[73]? = some (.bool false) := by rw [ha]; exact putSel_on (e := (14, 73, .bool false)) 14 rfl rfl (hon 14 (by kernel_rfl)) rfl
        replace ha := Aside0.mk ha
        have HB8 := Aside0.mk Q_HB8
        have HCl := Aside0.mk Q_HCl
        have HCD := Aside0.mk Q_HCD
        have HC10 := Aside0.mk Q_HC10
        have HC5 := Aside0.mk Q_HC5
        have BN := Aside0.mk Q_BN
        have BK := Aside0.mk Q_BK
        refine value_ (w1 := w') (v := .bool false) (by rfl) rfl ?_ ?_
        · go_simp
          (try simp only [i64_w])
          try rfl
          all_goals (try (unfold wrap64; omega))
        refine hK.out _ _ ⟨(by rw [ha.out]; exact putSel_upk 15 hb_ rfl rfl rfl), Q_HB8, Q_HCl, Q_HCD, Q_HC10, Q_HC5, Q_BN, Q_BK⟩
      exact steps_nil
    rintro b a w9 hall ⟨ha, Q_HB8, Q_HCl, Q_HCD, Q_HC10, Q_HC5, Q_BN, Q_BK⟩
    clear BK BN HB8 HC10 HC5 HCD HCl
    have hb0_ := hall 0 (by kernel_rfl)
    have hb1_ := hall 1 (by kernel_rfl)
    have hb2_ := hall 2 (by kernel_rfl)
    have hb3_ := hall 3 (by kernel_rfl)
    have hb4_ := hall 4 (by kernel_rfl)
    have hb5_ := hall 5 (by kernel_rfl)
    have hb6_ := hall 6 (by kernel_rfl)
    have hb7_ := hall 7 (by kernel_rfl)
    have hb8_ := hall 8 (by kernel_rfl)
    have hb9_ := hall 9 (by kernel_rfl)
    have hb10_ := hall 10 (by kernel_rfl)
    have hb11_ := hall 11 (by kernel_rfl)
    have hb12_ := hall 12 (by kernel_rfl)
    have hb13_ := hall 13 (by kernel_rfl)
    have hb14_ := hall 14 (by kernel_rfl)
    have hb15_ := hall 15 (by kernel_rfl)
    subst ha
    simp only [putSel, hb0_, hb1_, hb2_, hb3_, hb4_, hb5_, hb6_, hb7_, hb8_, hb9_, hb10_, hb11_, hb12_, hb13_, hb14_, hb15_, if_true, Act.put, List.setIfInBounds_toArray, List.set_cons_zero, List.set_cons_succ]
    have HB8 := Aside0.mk Q_HB8
    clear Q_HB8
    have HCl := Aside0.mk Q_HCl
    clear Q_HCl
    have HCD := Aside0.mk Q_HCD
    clear Q_HCD
    have HC10 := Aside0.mk Q_HC10
    clear Q_HC10
    have HC5 := Aside0.mk Q_HC5
    clear Q_HC5
    have BN := Aside0.mk Q_BN
    clear Q_BN
    have BK := Aside0.mk Q_BK
    clear Q_BK
    clear hall hb0_ hb1_ hb2_ hb3_ hb4_ hb5_ hb6_ hb7_ hb8_ hb9_ hb10_ hb11_ hb12_ hb13_ hb14_ hb15_
    rcases HCASE.out with ⟨h1, h2⟩ | h1
    · subst h1
      subst h2
      clear HCASE hs71
      go_wp2_with fail
      have hpop2 := pop_cons ⟨x0, x1, x2⟩ (⟨y0, y1, y2⟩ :: r0) (by omega)
      refine (shim_Pop.calls A5 c5 (⟨x0, x1, x2⟩ :: ⟨y0, y1, y2⟩ :: r0) x0 x1 x2 (⟨y0, y1, y2⟩ :: r0) 0 _ HC5.out hc5 hpop2).mono ?_
      clear hpop2
      rintro e w10 ⟨v12, rfl, hv, hb⟩
      obtain ⟨A12, c12, e12⟩ := Kd.R_slice hv
      subst e12
      have hlt9 := blk_lt BN.out
      have hvb := Kd.R_mono (ok' := fun k => k ≠ g9) (Kd.R_bound hv) (fun k hk e => by have := hk.2.1; omega)
      have HV12 := Aside0.mk hvb
      replace BN := Aside0.mk (blk_below BN.out hb)
      replace BK := Aside0.mk (blk_below BK.out hb)
      have HB10 := Aside0.mk (below_then HB8.out HB8.out.size hb)
      clear hv hvb hb HC5 HC10 HCl HCD
      have q0_ : w10.cell? ⟨g9, 0, none⟩ = some (.int .i64 y0) := (blk_cell BN.out 0).trans rfl
      have q1_ : w10.cell? ⟨g9, 1, none⟩ = some (.int .i64 y1) := (blk_cell BN.out 1).trans rfl
      have q2_ : w10.cell? ⟨g9, 2, none⟩ = some (.int .i64 y2) := (blk_cell BN.out 2).trans rfl
      have f0_ := blk_frozen BN.out 0
      have f1_ := blk_frozen BN.out 1
      have f2_ := blk_frozen BN.out 2
      have HGW := Aside0.mk (show w.heap.size ≤ g9 from by have := HG9.out; have := HB67s.out; omega)
      go_wp2_with ((with_reducible refine gate_store (t := 24) (p := 9) rfl ?_); refine store_event (t := 24) (p := 9) (v := .tmp 80) (w1 := ((w10.setCell ⟨g9, 0, none⟩ (.int .i64 x0)).setCell ⟨g9, 1, none⟩ (.int .i64 x1)).setCell ⟨g9, 2, none⟩ (.int .i64 x2)) ?hg ?ho ?hn ?hr ?_; (case ho => rfl); (case hg => rfl); (case hn => rfl); (case hr => first | (go_simp; done) | (go_simp; rfl)); intro w11 hw11; clear q0_ q1_ q2_ f0_ f1_ f2_; have HB11 : Aside0 (Below w.heap.size w w11) := ⟨(by rw [hw11]; exact below_put3 _ _ _ HB10.out HB10.out.size HGW.out)⟩; have HC12 : Aside0 (Kd.C k24 w11 A12 (⟨y0, y1, y2⟩ :: r0 : List S24).length (⟨y0, y1, y2⟩ :: r0)) := ⟨(by rw [hw11]; exact (Kd.R_reads' (Kd.R_far (p := ⟨g9, 2, none⟩) (Kd.R_far (p := ⟨g9, 1, none⟩) (Kd.R_far (p := ⟨g9, 0, none⟩) HV12.out (fun _ h => h) _) (fun _ h => h) _) (fun _ h => h) _)).2.2)⟩; have hc12 := (Kd.R_reads' HV12.out).2.1; have hne : some g3 ≠ some g9 := (fun e => HNE.out (Option.some.inj e)); have BK11 : Aside0 (w11.heap[g3]? = some (.cells #[.int .i64 x0, .int .i64 x1, .int .i64 x2] 24 (0, 0))) := ⟨(by rw [hw11]; exact blk_grown (blk_grown (blk_grown BK.out (grown_set _ _ _ _) hne) (grown_set _ _ _ _) hne) (grown_set _ _ _ _) hne)⟩; have BN11 : Aside0 (w11.heap[g9]? = some (.cells #[.int .i64 x0, .int .i64 x1, .int .i64 x2] 24 (0, 0))) := ⟨(by rw [hw11]; exact put3 _ _ _ BN.out)⟩; clear hw11 hne; have n0_ : w11.cell? ⟨g9, 0, none⟩ = some (.int .i64 x0) := (blk_cell BN11.out 0).trans rfl; have n1_ : w11.cell? ⟨g9, 1, none⟩ = some (.int .i64 x1) := (blk_cell BN11.out 1).trans rfl; have n2_ : w11.cell? ⟨g9, 2, none⟩ = some (.int .i64 x2) := (blk_cell BN11.out 2).trans rfl; have m0_ : w11.cell? ⟨g3, 0, none⟩ = some (.int .i64 x0) := (blk_cell BK11.out 0).trans rfl; have m1_ : w11.cell? ⟨g3, 1, none⟩ = some (.int .i64 x1) := (blk_cell BK11.out 1).trans rfl; have m2_ : w11.cell? ⟨g3, 2, none⟩ = some (.int .i64 x2) := (blk_cell BK11.out 2).trans rfl)
      refine (viaductref03_Same.calls k5 A12 c12 (⟨y0, y1, y2⟩ :: r0) (some ad) c (⟨y0, y1, y2⟩ :: r0) true _ HC12.out hc12 (Kd.C_below HR.out HB11.out) hc HK5.out).mono ?_
      rintro e w12 ⟨rfl, ⟨nd, rfl⟩⟩
      clear n0_ n1_ n2_ m0_ m1_ m2_
      go_wp2_with fail
      go_ret
      exact ⟨rfl, pw_below_drewN HB11.out nd⟩
    · have hy : (Y != 0) = true := bne_iff_ne.mpr h1
      clear h1 HCASE
      go_wp2_with fail
      go_ret
      exact ⟨rfl, HB8.out⟩

theorem moves_big {w : World} {A : Option Addr} {c len : Nat} (x0 x1 x2 : Int) (hm : len ≤ maxLen) (hl : ¬ len ≤ 4096) :
    Calls Try.prog 8 #[.slice A len c, .agg #[.int .i64 x0, .int .i64 x1, .int .i64 x2]] w fun e w' => e = .returned (.bool true) ∧ Below w.heap.size w w' := by
  unfold maxLen at hm
  obtain ⟨k0, hk0⟩ := alive03.rounds
  have HK0 := Aside0.mk hk0
  clear hk0
  go_enter Try.func8, Try.ntmps8
  go_wp2_with ((with_reducible refine gate_dst (N := 3) rfl ?_); refine box_event ?hg (N := 3) ?hd (cs := #[.int .i64 x0, .int .i64 x1, .int .i64 x2]) (t := 24) ?hr ?_; (case hd => rfl); (case hg => rfl); (case hr => first | (go_simp; done) | (go_simp; rfl)); intro gb hg w1 hbox hb; have BK := Aside0.mk hbox; have HB := Aside0.mk hb; clear hb hbox hg)
  refine (viaductlaw03_alive.calls k0 true _ HK0.out).mono ?_
  rintro e w2 ⟨rfl, hb⟩
  replace HB := Aside0.mk (below_then HB.out HB.out.size hb)
  clear hb
  go_wp2
  go_ret
  exact ⟨rfl, HB.out⟩

theorem moves_walk (A : Option Addr) (c : Nat) (l : List S24) (x : S24) (w : World) (hC : Kd.C k24 w A l.length l) (hc : l.length ≤ c) (hm : c ≤ maxLen) (hw : ∀ y ∈ l, (Lit.int .i64 y.f0).wf = true ∧ (Lit.int .i64 y.f1).wf = true ∧ (Lit.int .i64 y.f2).wf = true) (hx : (Lit.int .i64 x.f0).wf = true ∧ (Lit.int .i64 x.f1).wf = true ∧ (Lit.int .i64 x.f2).wf = true) :
    Calls Try.prog 8 #[.slice A l.length c, .agg #[.int .i64 x.f0, .int .i64 x.f1, .int .i64 x.f2]] w fun e w' => e = .returned (.bool true) ∧ Below w.heap.size w w' := by
  by_cases hl : l.length ≤ 4096
  · exact moves_small x.f0 x.f1 x.f2 hC hc hl
  · exact moves_big x.f0 x.f1 x.f2 (Nat.le_trans hc hm) hl
end Go.Proofs.Ytppdmaeoipeefaa.Walk
