/- OctetNobody answers true. -/
import Derived.Test.YtkjfemkmooepnaaGivAlive01
import Derived.Test.YtkjfemkmooepnaaPut
import Derived.Deep.RegionWith
namespace Go.Proofs.Ytkjfemkmooepnaa.Walk
open Go.RowKit Go.Proofs.YtkjfemkmooepnaaW.PrintWords Go.Proofs.YtkjfemkmooepnaaW.PrintLast Go.Proofs.YtkjfemkmooepnaaW.PrintMore Go.Proofs.Ytkjfemkmooepnaa.Oct Go.Proofs.Ytkjfemkmooepnaa.Giv
set_option linter.unusedVariables false
set_option linter.unusedSimpArgs false

/-- A reader that no call made. -/
def Nob (w : World) (p : Option Addr) : Prop := p = none ∨ ∃ g, p = some ⟨g, 0, none⟩ ∧ w.heap[g]? = some (.cells #[.bool false, .slice none 0 0, .int .i64 0] 54 (0, 0))
theorem nob_err {w : World} {p : Option Addr} (h : Nob w p) : Calls Try.prog 16 #[.pointer p] w fun e w' => e = .returned (.int .i64 1) ∧ w = w' := by
  rcases h with rfl | ⟨g, rfl, h⟩
  · go_enter Try.func16, Try.ntmps16
    go_wp2
    go_ret
    exact ⟨rfl, rfl⟩
  · have hc0 : w.cell? ⟨g, 0, none⟩ = some (.bool false) := (blk_cell h 0).trans rfl
    clear h
    go_enter Try.func16, Try.ntmps16
    go_wp2
    go_ret
    exact ⟨rfl, rfl⟩
theorem nob_left {w : World} {p : Option Addr} (h : Nob w p) : Calls Try.prog 17 #[.pointer p] w fun e w' => e = .returned (.int .i64 0) ∧ w = w' := by
  rcases h with rfl | ⟨g, rfl, h⟩
  · go_enter Try.func17, Try.ntmps17
    go_wp2
    go_ret
    exact ⟨rfl, rfl⟩
  · have hc1 : w.cell? ⟨g, 1, none⟩ = some (.slice none 0 0) := (blk_cell h 1).trans rfl
    clear h
    go_enter Try.func17, Try.ntmps17
    go_wp2
    go_ret
    exact ⟨rfl, rfl⟩
theorem nob_take {w : World} {p : Option Addr} (h : Nob w p) (n : Int) (b : Bool) : Calls Try.prog 24 #[.pointer p, .int .i64 n, .bool b] w fun e w' => e = .returned (.slice none 0 0) ∧ w = w' := by
  have H := Aside0.mk h
  clear h
  go_enter Try.func24, Try.ntmps24
  go_wp2_with (go_at_call 16; refine (nob_err H.out).mono ?_; rintro e w' ⟨rfl, rfl⟩)
  go_ret
  exact ⟨rfl, rfl⟩
theorem nob_bytes {w : World} {p : Option Addr} (h : Nob w p) (n : Int) : Calls Try.prog 18 #[.pointer p, .int .i64 n] w fun e w' => e = .returned (.slice none 0 0) ∧ w = w' := by
  have H := Aside0.mk h
  clear h
  go_enter Try.func18, Try.ntmps18
  go_wp2_with (go_at_call 24; refine (nob_take H.out n _).mono ?_; rintro e w' ⟨rfl, rfl⟩)
  go_ret
  exact ⟨rfl, rfl⟩
theorem nob_uint {w : World} {p : Option Addr} (h : Nob w p) (n : Int) : Calls Try.prog 15 #[.pointer p, .int .i64 n] w fun e w' => e = .returned (.int .u64 0) ∧ w = w' := by
  have H := Aside0.mk h
  clear h
  by_cases h1 : 1 ≤ n
  all_goals
    go_enter Try.func15, Try.ntmps15
    go_wp2_with fail
    refine (nob_take H.out n _).mono ?_
    rintro e w' ⟨rfl, rfl⟩
    go_wp2_with fail
    go_loop [5, 18] (fun u i => i = .int .i64 0 ∧ u = .int .u64 0) (fun _ i => 0)
    case atStart => exact ⟨rfl, rfl⟩
    case round =>
      obtain ⟨rfl, rfl⟩ := hrel
      go_wp2
      go_ret
      exact ⟨rfl, rfl⟩

theorem rdr_bound {w : World} {base g : Nat} {ok : Nat → Prop} {l : List Int} {e : Int} (h : Rdr w base ok g l e) : Rdr w base (fun k => ok k ∧ base ≤ k ∧ k < w.heap.size) g l e := by
  have hlt := h.lt
  obtain ⟨h1, h2, v, h3, h4⟩ := h
  exact ⟨h1, ⟨h2, h1, hlt⟩, v, h3, Kd.Q_mono (Kd.Q_bound h4) (fun k hk => ⟨hk.1, hk.2.1, hk.2.2.1⟩)⟩

set_option maxRecDepth 20000 in
set_option maxHeartbeats 4000000 in
theorem nobody_walk (n : Int) (w : World) (w0 : (Lit.int .i64 n).wf = true) :
    Calls Try.prog 8 #[.int .i64 n] w fun e w' => e = .returned (.bool true) ∧ Below w.heap.size w w' := by
  clear w0
  go_enter Try.func8, Try.ntmps8
  go_wp2_with fail
  refine (viaductlaw01_alive.calls true _ rfl).mono ?_
  rintro e w1 ⟨rfl, hb⟩
  have HB := Aside0.mk hb
  clear hb
  go_wp2_with ((with_reducible refine gate_dst (N := 14) rfl ?_); refine box_event ?hg (N := 14) ?hd (cs := #[.bool false, .slice none 0 0, .int .i64 0]) (t := 54) ?hr ?_; (case hd => rfl); (case hg => rfl); (case hr => first | (go_simp; done) | (go_simp; rfl)); intro g hg w2 hbox hb; have BK := Aside0.mk hbox; have HB2 := Aside0.mk (below_then HB.out HB.out.size hb); clear hb hbox hg)
  obtain ⟨s, hs⟩ : ∃ s, w2.heap.size = s := ⟨_, rfl⟩
  obtain ⟨w3, hw3⟩ : ∃ w3, w2.alloc (.cells #[.pointer none, .pointer (some ⟨g, 0, none⟩)] 34) = w3 := ⟨_, rfl⟩
  have hcells : w3.heap[s]? = some (.cells #[.pointer none, .pointer (some ⟨g, 0, none⟩)] 34 (0, 0)) := by rw [← hw3, ← hs]; exact blk_new _ _
  have hb23 : Below w2.heap.size w2 w3 := by rw [← hw3]; exact below_alloc (Below.refl _ _) _
  rw [hs, hw3]
  have HN0 : Aside0 (Nob w3 none) := ⟨.inl rfl⟩
  have HN1 : Aside0 (Nob w3 (some ⟨g, 0, none⟩)) := ⟨.inr ⟨g, rfl, blk_below BK.out hb23⟩⟩
  have hp0 : w3.cell? ⟨s, 0, none⟩ = some (.pointer none) := (blk_cell hcells 0).trans rfl
  have hp1 : w3.cell? ⟨s, 1, none⟩ = some (.pointer (some ⟨g, 0, none⟩)) := (blk_cell hcells 1).trans rfl
  have HB3 := Aside0.mk (below_then HB2.out HB2.out.size hb23)
  clear hw3 hcells hb23 BK HB HB2 hs
  go_loop [17] (fun i => i = .int .i64 0 ∨ i = .int .i64 1 ∨ i = .int .i64 2) (fun i => 2 - (intOf i).toNat)
  case atStart => exact .inl rfl
  case round =>
    rcases hrel with rfl | rfl | rfl
    · go_wp2_with (first | (go_at_call 16; refine (nob_err HN0.out).mono ?_; rintro e w' ⟨rfl, rfl⟩) | (go_at_call 17; refine (nob_left HN0.out).mono ?_; rintro e w' ⟨rfl, rfl⟩) | (go_at_call 15; refine (nob_uint HN0.out n).mono ?_; rintro e w' ⟨rfl, rfl⟩) | (go_at_call 18; refine (nob_bytes HN0.out n).mono ?_; rintro e w' ⟨rfl, rfl⟩))
      go_round
      case rel => exact .inr (.inl rfl)
      case measure => decide
    · go_wp2_with (first | (go_at_call 16; refine (nob_err HN1.out).mono ?_; rintro e w' ⟨rfl, rfl⟩) | (go_at_call 17; refine (nob_left HN1.out).mono ?_; rintro e w' ⟨rfl, rfl⟩) | (go_at_call 15; refine (nob_uint HN1.out n).mono ?_; rintro e w' ⟨rfl, rfl⟩) | (go_at_call 18; refine (nob_bytes HN1.out n).mono ?_; rintro e w' ⟨rfl, rfl⟩))
      go_round
      case rel => exact .inr (.inr rfl)
      case measure => decide
    · clear hp0 hp1
      go_wp2_with fail
      have hlit := lit_row w3 w.heap.size HB3.out.size [1, 2, 3] #[.int .u8 1, .int .u8 2, .int .u8 3] rfl (by decide)
      have hbl : Below w3.heap.size w3 (w3.alloc (.cells #[.int .u8 1, .int .u8 2, .int .u8 3] 5)) := below_alloc (Below.refl _ _) _
      have hblk : (w3.alloc (.cells #[.int .u8 1, .int .u8 2, .int .u8 3] 5)).heap[w3.heap.size]? = some (.cells #[.int .u8 1, .int .u8 2, .int .u8 3] 5 (0, 0)) := blk_new _ _
      obtain ⟨s5, hs5⟩ : ∃ s5, w3.heap.size = s5 := ⟨_, rfl⟩
      have hws : w.heap.size ≤ s5 := by rw [← hs5]; exact HB3.out.size
      have hB5 := below_then HB3.out HB3.out.size hbl
      obtain ⟨w5, hw5⟩ : ∃ w5, w3.alloc (.cells #[.int .u8 1, .int .u8 2, .int .u8 3] 5) = w5 := ⟨_, rfl⟩
      rw [hs5, hw5] at hlit hblk
      rw [hw5] at hB5
      rw [hs5, hw5]
      clear hbl hs5 hw5
      have HLIT := Aside0.mk (Kd.R_reads' hlit).2.2
      have HBLK := Aside0.mk hblk
      have HB5 := Aside0.mk hB5
      clear hlit hblk hB5 HN0 HN1 HB3
      refine (new_calls (l := [1, 2, 3]) (c := 3) HLIT.out (by decide) (by decide)).mono ?_
      rintro e w6 ⟨g6, rfl, hR, hb⟩
      have hs5lt := blk_lt HBLK.out
      have HR6 := Aside0.mk (rdr_bound hR)
      have HBK6 := Aside0.mk (blk_below HBLK.out hb)
      have HB6 := Aside0.mk (below_then HB5.out HB5.out.size hb)
      have HLT := Aside0.mk hs5lt
      clear hR hb hs5lt HB5 HBLK HLIT
      have q0_ : w6.cell? ⟨s5, 0, none⟩ = some (.int .u8 1) := (blk_cell HBK6.out 0).trans rfl
      have f0_ := blk_frozen HBK6.out 0
      go_wp2_with fail
      clear q0_ f0_
      have hR7 : Rdr (w6.setCell ⟨s5, 0, none⟩ (.int .u8 9)) w5.heap.size (fun k => w5.heap.size ≤ k) g6 [1, 2, 3] 0 := (HR6.out.step (fun k hk _ => Below.heap_setCell w6 ⟨s5, 0, none⟩ (.int .u8 9) k (fun e => by have := HLT.out; have := hk.2.1; simp only at e; omega))).mono (fun k hk => hk.2.1)
      have HB7 := Aside0.mk (HB6.out.grown (grown_set w6 s5 0 (.int .u8 9)) HB6.out.size (by intro k hk; cases hk; exact hws))
      obtain ⟨w7, hw7⟩ : ∃ w7, w6.setCell ⟨s5, 0, none⟩ (.int .u8 9) = w7 := ⟨_, rfl⟩
      rw [hw7] at hR7 HB7 ⊢
      have HR7 := Aside0.mk hR7
      clear hw7 hR7 HR6 HBK6 HB6
      have hby := bytes_calls HR7.out 1
      have e1 : takeO [1, 2, 3] 0 1 (decide ((0 : Int) ≤ 1)) = [1] := by decide
      rw [e1] at hby
      refine hby.mono ?_
      clear hby e1
      rintro e w8 ⟨A7, c7, rfl, hc7, hF, hR8, hg8⟩
      obtain ⟨ad, hA, hcell⟩ := Kd.at_int (Kd.F_now hF) 0 (by decide) (by decide)
      subst hA
      have HB8 := Aside0.mk (HB7.out.grown hg8 HB7.out.size (by intro k hk; cases hk; exact Nat.le_trans (Nat.le_trans hws (Nat.le_of_lt HLT.out)) HR7.out.1))
      rw [show (0 : Int).toNat = 0 from rfl, show rd [1] 0 = 1 from rfl, Addr.add_zero'] at hcell
      clear hF hR8 hg8 hc7 HR7 HB7
      go_wp2_with fail
      clear hcell
      have hbl : Below w8.heap.size w8 (w8.alloc (.cells #[.int .u8 7] 5)) := below_alloc (Below.refl _ _) _
      have hblk : (w8.alloc (.cells #[.int .u8 7] 5)).heap[w8.heap.size]? = some (.cells #[.int .u8 7] 5 (0, 0)) := blk_new _ _
      obtain ⟨s8, hs8⟩ : ∃ s8, w8.heap.size = s8 := ⟨_, rfl⟩
      have hB9 := below_then HB8.out HB8.out.size hbl
      obtain ⟨w9, hw9⟩ : ∃ w9, w8.alloc (.cells #[.int .u8 7] 5) = w9 := ⟨_, rfl⟩
      rw [hs8, hw9] at hblk
      rw [hw9] at hB9
      rw [hs8, hw9]
      clear hbl hs8 hw9
      have HBLK := Aside0.mk hblk
      have HB9 := Aside0.mk hB9
      clear hblk hB9 HB8
      have hput := put_any (w := w9) (A := some ⟨s8, 0, none⟩) (c := 1) (l := []) ⟨rfl, by decide, fun h => absurd h (Nat.lt_irrefl 0)⟩ (by decide) (by decide) 1 5
      have e1 : putE 1 5 = 0 := by decide +kernel
      have e2 : putB [] 1 5 = [5] := by decide +kernel
      rw [e1, e2] at hput
      refine hput.mono ?_
      clear hput e1 e2
      rintro e w10 ⟨v, rfl, hv, hb⟩
      obtain ⟨A10, c10, e10⟩ := Kd.R_slice hv
      subst e10
      have hcv := conv (c := c10) (Kd.R_reads' hv).2.2
      rw [show ([5] : List Int).length = 1 from rfl] at hcv
      have hst : ((strOfNums [5]).toList == [5]) = true := by decide +kernel
      have q0_ : w10.cell? ⟨s8, 0, none⟩ = some (.int .u8 7) := (blk_cell (blk_below HBLK.out hb) 0).trans rfl
      have HB10 := Aside0.mk (below_then HB9.out HB9.out.size hb)
      clear hv hb
      go_wp2_with fail
      go_ret
      exact ⟨rfl, HB10.out⟩
end Go.Proofs.Ytkjfemkmooepnaa.Walk
