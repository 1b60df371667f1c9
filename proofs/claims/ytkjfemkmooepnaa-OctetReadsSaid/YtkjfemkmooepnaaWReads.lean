/- OctetReads answers true. -/
import Derived.Test.YtkjfemkmooepnaaRefUint
import Derived.Test.YtkjfemkmooepnaaGivAlive01
namespace Go.Proofs.Ytkjfemkmooepnaa.Walk
open Go.RowKit Go.Proofs.YtkjfemkmooepnaaW.PrintWords Go.Proofs.YtkjfemkmooepnaaW.PrintLast Go.Proofs.YtkjfemkmooepnaaW.PrintMore Go.Proofs.Ytkjfemkmooepnaa.Oct Go.Proofs.Ytkjfemkmooepnaa.Ref Go.Proofs.Ytkjfemkmooepnaa.Giv Go.Proofs.Ytkjfemkmooepnaa.Knd
set_option linter.unusedVariables false
set_option linter.unusedSimpArgs false

/-- What lay there is as it was, but for one block. -/
def KeepX (W W' : World) (g : Nat) : Prop := W.heap.size ≤ W'.heap.size ∧ ∀ k, k < W.heap.size → k ≠ g → W'.heap[k]? = W.heap[k]?
theorem KeepX.refl (W : World) (g : Nat) : KeepX W W g := ⟨Nat.le_refl _, fun _ _ _ => rfl⟩
theorem KeepX.below {W W1 W2 : World} {g : Nat} (h : KeepX W W1 g) (hb : Below W1.heap.size W1 W2) : KeepX W W2 g :=
  ⟨Nat.le_trans h.1 hb.size, fun k hk hn => (hb.block k (Nat.lt_of_lt_of_le hk h.1)).trans (h.2 k hk hn)⟩
theorem KeepX.put1 {W W1 : World} {g x : Nat} (h : KeepX W W1 g) (hx : x = g ∨ W.heap.size ≤ x) (j : Nat) (v : Value) : KeepX W (W1.setCell ⟨x, j, none⟩ v) g :=
  ⟨Nat.le_trans h.1 (grown_set W1 x j v).size, fun k hk hn => (Below.heap_setCell W1 ⟨x, j, none⟩ v k (fun e => by simp only at e; rcases hx with hx | hx <;> omega)).trans (h.2 k hk hn)⟩
theorem KeepX.put3 {W W1 : World} {g x : Nat} (h : KeepX W W1 g) (hx : x = g ∨ W.heap.size ≤ x) (a b c : Value) : KeepX W (((W1.setCell ⟨x, 0, none⟩ a).setCell ⟨x, 1, none⟩ b).setCell ⟨x, 2, none⟩ c) g := ((h.put1 hx 0 a).put1 hx 1 b).put1 hx 2 c

theorem rdr_bound {w : World} {base g : Nat} {ok : Nat → Prop} {l : List Int} {e : Int} (h : Rdr w base ok g l e) : Rdr w base (fun k => ok k ∧ base ≤ k ∧ k < w.heap.size) g l e := by
  have hlt := h.lt
  obtain ⟨h1, h2, v, h3, h4⟩ := h
  exact ⟨h1, ⟨h2, h1, hlt⟩, v, h3, Kd.Q_mono (Kd.Q_bound h4) (fun k hk => ⟨hk.1, hk.2.1, hk.2.2.1⟩)⟩

def r14.T14 : Bool × List (List Nat × List Nat) := (true, [([], []), ([], []), ([], []), ([1, 2], [1, 2]), ([3], [3]), ([4], [4]), ([0, 5], [0, 5]), ([6], [6]), ([7], [7]), ([7], [7]), ([], []), ([10, 8, 6, 0, 1, 2, 3, 4, 5, 6, 7, 8, 10], [8, 10]), ([9, 11, 0, 1, 2, 3, 4, 5, 6, 7, 8, 9, 10, 11], [9])])
def r14.B14 : List Nat := [0, 0, 0, 6, 14, 30, 63, 127, 255, 255, 0, 1535, 4095]
theorem r14.tab14 : rtab .any (opsOf Try.f6 14) = r14.T14 := by kernel_rfl
theorem r14.bits14 : waitsOk r14.T14.2 r14.B14 = true := by kernel_rfl
def r23a.T23 : Bool × List (List Nat × List Nat) := (true, [([], []), ([0], [0]), ([], []), ([2, 1], [2]), ([1, 3], [1, 3]), ([4, 3], [4]), ([5], [5]), ([6, 5, 5], [5, 6]), ([5], [5]), ([8, 5], [5, 8]), ([7, 9, 5], [5, 7, 9]), ([5, 10], [5, 10])])
def r23a.B23 : List Nat := [0, 1, 0, 7, 15, 31, 63, 127, 63, 319, 1023, 2047]
theorem r23a.tab23 : rtab .any (opsOf Try.f6 23) = r23a.T23 := by kernel_rfl
theorem r23a.bits23 : waitsOk r23a.T23.2 r23a.B23 = true := by kernel_rfl
def r19.T19 : Bool × List (List Nat × List Nat) := (true, [([], []), ([], []), ([], []), ([1, 2], [1, 2]), ([3], [3]), ([4], [4]), ([0, 5], [0, 5]), ([6], [6]), ([7], [7]), ([7], [7]), ([], []), ([10, 8, 6, 0, 1, 2, 3, 4, 5, 6, 7, 8, 10], [8, 10]), ([9, 11, 0, 1, 2, 3, 4, 5, 6, 7, 8, 9, 10, 11], [9])])
def r19.B19 : List Nat := [0, 0, 0, 6, 14, 30, 63, 127, 255, 255, 0, 1535, 4095]
theorem r19.tab19 : rtab .any (opsOf Try.f6 19) = r19.T19 := by kernel_rfl
theorem r19.bits19 : waitsOk r19.T19.2 r19.B19 = true := by kernel_rfl
def r23b.T23 : Bool × List (List Nat × List Nat) := (true, [([], []), ([0], [0]), ([], []), ([2, 1], [2]), ([1, 3], [1, 3]), ([4, 3], [4]), ([5], [5]), ([6, 5, 5], [5, 6]), ([5], [5]), ([8, 5], [5, 8]), ([7, 9, 5], [5, 7, 9]), ([5, 10], [5, 10])])
def r23b.B23 : List Nat := [0, 1, 0, 7, 15, 31, 63, 127, 63, 319, 1023, 2047]
theorem r23b.tab23 : rtab .any (opsOf Try.f6 23) = r23b.T23 := by kernel_rfl
theorem r23b.bits23 : waitsOk r23b.T23.2 r23b.B23 = true := by kernel_rfl
set_option maxRecDepth 20000 in
set_option maxHeartbeats 8000000 in
theorem reads_small {w : World} {A B : Option Addr} {c d : Nat} {l : List Int} {ops : List SO} (hr : Kd.C (Kd.int .u8) w A l.length l) (hc : l.length ≤ c) (hl : l.length ≤ 4096) (hby : Bytes l) (hr2 : Kd.C kO w B ops.length ops) (hc2 : ops.length ≤ d) (hd : d ≤ maxLen) (hnb : ∀ y ∈ ops, (Lit.int .i64 y.f0).wf = true ∧ True) :
    Calls Try.prog 6 #[.slice A l.length c, .slice B ops.length d] w fun e w' => e = .returned (.bool true) ∧ Below w.heap.size w w' := by
  unfold maxLen at hd
  have HA := Aside0.mk hr
  have HO := Aside0.mk hr2
  have HBY := Aside0.mk hby
  have HWF := Aside0.mk hnb
  clear hr hr2 hby hnb
  go_enter Try.func6, Try.ntmps6
  go_wp2_with fail
  refine (viaductlaw01_alive.calls true _ rfl).mono ?_
  rintro e w1 ⟨rfl, hb⟩
  have HB1 := Aside0.mk hb
  clear hb
  go_wp2_with fail
  refine (new_calls (Kd.C_below HA.out HB1.out) hc (by omega)).mono ?_
  rintro e w2 ⟨g, rfl, hR, hb⟩
  have HR2 := Aside0.mk (hR.lower HB1.out.size)
  have HB2 := Aside0.mk (below_then HB1.out HB1.out.size hb)
  clear hR hb HB1
  go_wp2_with fail
  have B60 : (w2.alloc (.cells #[.slice A l.length c, .int .i64 0, .int .i64 0] 43)).heap[w2.heap.size]? = some (.cells #[.slice A l.length c, .int .i64 ((0 : Nat) : Int), .int .i64 0] 43 (0, 0)) := blk_new _ _
  have hbA : Below w2.heap.size w2 (w2.alloc (.cells #[.slice A l.length c, .int .i64 0, .int .i64 0] 43)) := below_alloc (Below.refl _ _) _
  obtain ⟨g6, hg6⟩ : ∃ g6, w2.heap.size = g6 := ⟨_, rfl⟩
  have hRA : Rdr (w2.alloc (.cells #[.slice A l.length c, .int .i64 0, .int .i64 0] 43)) w.heap.size (fun k => k ≠ g6) g (l.drop 0) 0 := ((rdr_bound HR2.out).mono (fun k hk => by have := hk.2.2; omega)).below hbA
  have HBA := below_then HB2.out HB2.out.size hbA
  have hwg : w.heap.size ≤ g6 := by rw [← hg6]; exact HB2.out.size
  obtain ⟨wA, hwA⟩ : ∃ wA, w2.alloc (.cells #[.slice A l.length c, .int .i64 0, .int .i64 0] 43) = wA := ⟨_, rfl⟩
  rw [hg6, hwA] at B60
  rw [hwA] at hRA HBA
  rw [hg6, hwA]
  have B60' := Aside0.mk B60
  have HRA := Aside0.mk hRA
  have HBA' := Aside0.mk HBA
  have HG6 := Aside0.mk hwg
  clear B60 hbA hg6 hRA HBA hwA HR2 HB2 hwg
  go_loopg [7] 64 (fun gk v7 w' => ∃ (i k at_ : Nat) (er : Int), k = gk ∧ v7 = .int .i64 (i : Int) ∧ i + k = 64 ∧ i ≤ ops.length ∧ at_ ≤ l.length ∧ Aside0 (Rdr w' w.heap.size (fun k => k ≠ g6) g (l.drop at_) er) ∧ Aside0 (w'.heap[g6]? = some (.cells #[.slice A l.length c, .int .i64 (at_ : Int), .int .i64 er] 43 (0, 0))) ∧ Aside0 (Below w.heap.size w w'))
  case atStart => exact ⟨0, 64, 0, 0, rfl, rfl, rfl, Nat.zero_le _, Nat.zero_le _, HRA, B60', HBA'⟩
  case round =>
    clear HRA B60' HBA'
    obtain ⟨i, k, at_, er, rfl, rfl, hik, hio, hat, HRd, B6, HB⟩ := hrel
    obtain ⟨wz, hwz⟩ : ∃ wz, wz = wr := ⟨_, rfl⟩
    subst hwz
    by_cases hi : i < ops.length ∧ i < 64
    · obtain ⟨h1, h2⟩ := hi
      obtain ⟨ad, hA0, _, _⟩ := at_op HO.out i h1
      subst hA0
      obtain ⟨⟨n, b⟩, hop⟩ : ∃ x, ops[i] = x := ⟨_, rfl⟩
      have hcells : ∀ w' : World, Below w.heap.size w w' → w'.cell? (ad.add (i * 2)) = some (.int .i64 n) ∧ w'.cell? ⟨(ad.add (i * 2)).block, (ad.add (i * 2)).off + 1, none⟩ = some (.bool b) := fun w' hb => by
        obtain ⟨ad', e, hx0, hx1⟩ := at_op (Kd.C_below HO.out hb) i h1
        cases e
        rw [hop] at hx0 hx1
        exact ⟨hx0, hx1⟩
      have hnb := bounds_i64 (HWF.out ops[i] (List.getElem_mem h1)).1
      rw [hop] at hnb
      simp only at hnb
      have HNB := Aside0.mk hnb
      have HOP : Aside0 (∀ w' : World, Below w.heap.size w w' → w'.cell? (ad.add (i * 2)) = some (.int .i64 n)) := ⟨fun w' hb => (hcells w' hb).1⟩
      obtain ⟨hx0, hx1⟩ := hcells _ HB.out
      clear hcells hop hnb
      obtain ⟨k, rfl⟩ : ∃ k', k = k' + 1 := ⟨k - 1, by omega⟩
      cases b with
      | true =>
        go_wp2_with fail
        have hrc : ∀ W : World, Kd.C (Kd.int .u8) W A l.length l → _ := fun W hW => rbytes hW hc hl at_ hat er n (by have := HNB.out; omega)
        have hby := bytes_calls HRd.out n
        generalize takeE (l.drop at_) er n (decide (0 ≤ n)) = E at *
        generalize takeL (l.drop at_) er n (decide (0 ≤ n)) = L at *
        generalize takeO (l.drop at_) er n (decide (0 ≤ n)) = O at *
        have HRC := Aside0.mk hrc
        clear hrc
        refine hby.mono ?_
        clear hby
        rintro e w3 ⟨A8, c8, rfl, hc8, hF, hR, hg⟩
        have HF := Aside0.mk hF
        clear hF
        have HR3 := Aside0.mk hR
        have hne : some g6 ≠ some g := fun e => HRd.out.2.1 (Option.some.inj e).symm
        replace B6 := Aside0.mk (blk_below (blk_grown B6.out hg hne) (below_drew (Below.refl _ _)))
        replace HB := Aside0.mk (below_drew (HB.out.grown hg HB.out.size (by intro k hk; cases hk; exact HRd.out.1)))
        have HK := Aside0.mk ((KeepX.refl w3 g6).below (below_drew (Below.refl _ _)))
        clear hR hg hne HRd
        go_wp2_with fail
        refine start_ (n := 13) (S := fun w' => True) (ds := []) #[false, false, false, false, false, false, false, false, false, false, false, false, false] (by kernel_rfl) rfl rfl trivial (fun hHeld => ?_)
        refine with_tabW r14.tab14 r14.bits14 (fun HT_ HW_ => ?_)
        refine inv_at [0, 1, 2, 3, 4, 5, 6, 7, 8, 9, 10, 11, 12] (fun a0_ b a w' => ∃ (at2 : Nat) (A10 : Option Addr) (c10 : Nat) (g9 : Nat) (m6_ : Value) (m7_ : Value) (m8_ : Value) (m9_ : Value) (m10_ : Value) (m12_ : Value), a = putSel a0_ b [(0, 48, .agg #[.slice A l.length c, .int .i64 (at_ : Int), .int .i64 er]), (1, 49, .slice (some ad) ops.length d), (2, 50, .int .i64 (i : Int)), (3, 51, .pointer (some (ad.add (i * 2)))), (4, 52, .pointer (some (ad.add (i * 2)))), (5, 53, .int .i64 n), (6, 54, m6_), (7, 47, m7_), (8, 55, m8_), (9, 56, m9_), (10, 9, m10_), (12, 10, m12_)] ∧ (Below w.heap.size w w') ∧ (KeepX w3 w' g6) ∧ (w'.heap[g6]? = some (.cells #[.slice A l.length c, .int .i64 (at_ : Int), .int .i64 er] 43 (0, 0))) ∧ (b 6 = true → at2 ≤ l.length ∧ l.drop at2 = L) ∧ (b 6 = true → Kd.R (Kd.int .u8) 5 w' w.heap.size (fun _ => True) (.slice A10 O.length c10) O) ∧ (b 10 = true → b 11 = false → w'.heap[g9]? = some (.cells #[.slice none 0 0, .int .i64 0, .int .i64 0] 43 (0, 0))) ∧ (b 10 = true → w3.heap.size ≤ g9 ∧ w.heap.size ≤ g9 ∧ g6 ≠ g9) ∧ (b 11 = true → w'.heap[g9]? = some (.cells #[.slice A l.length c, .int .i64 (at2 : Int), .int .i64 E] 43 (0, 0))) ∧ (b 6 = true → (m6_ : Value) = .tuple #[.agg #[.slice A l.length c, .int .i64 (at2 : Int), .int .i64 E], .slice A10 O.length c10]) ∧ (b 7 = true → (m7_ : Value) = .tuple #[.agg #[.slice A l.length c, .int .i64 (at2 : Int), .int .i64 E], .slice A10 O.length c10]) ∧ (b 8 = true → (m8_ : Value) = .agg #[.slice A l.length c, .int .i64 (at2 : Int), .int .i64 E]) ∧ (b 9 = true → (m9_ : Value) = .slice A10 O.length c10) ∧ (b 10 = true → (m10_ : Value) = .pointer (some ⟨g9, 0, none⟩)) ∧ (b 12 = true → (m12_ : Value) = .slice A10 O.length c10)) HT_.out HW_.out (by kernel_rfl) (by kernel_rfl) ?_ ?_ ?_
        · exact ⟨0, none, 0, 0, .bool false, .bool false, .bool false, .bool false, .bool false, .bool false, by simp only [putSel, Bool.false_eq_true, if_false], HB.out, HK.out, B6.out, fun h_ => absurd h_ (by decide), fun h_ => absurd h_ (by decide), fun h_ => absurd h_ (by decide), fun h_ => absurd h_ (by decide), fun h_ => absurd h_ (by decide), fun h_ => absurd h_ (by decide), fun h_ => absurd h_ (by decide), fun h_ => absurd h_ (by decide), fun h_ => absurd h_ (by decide), fun h_ => absurd h_ (by decide), fun h_ => absurd h_ (by decide)⟩
        · skip
          clear B6 HB HK
          refine steps_cons ?_ ?_
          · rintro b a w' ⟨at2, A10, c10, g9, m6_, m7_, m8_, m9_, m10_, m12_, ha, Q_HB, Q_HK, Q_B6, Q_HAT, Q_HY, Q_B9, Q_G9, Q_B9b, Q_X6_, Q_X7_, Q_X8_, Q_X9_, Q_X10_, Q_X12_⟩ hb_ hon hoff
            refine ⟨_, rfl, fun K hK => ?_⟩
            have e6 : a.tmps[6]? = some (.pointer (some ⟨g6, 0, none⟩)) := by rw [ha]; exact (putSel_off rfl).trans rfl
            replace ha := Aside0.mk ha
            have HB := Aside0.mk Q_HB
            have HK := Aside0.mk Q_HK
            have B6 := Aside0.mk Q_B6
            have hq0_ : w'.cell? ⟨g6, 0, none⟩ = some (.slice A l.length c) := (blk_cell B6.out 0).trans rfl
            have hq1_ : w'.cell? ⟨g6, 1, none⟩ = some (.int .i64 (at_ : Int)) := (blk_cell B6.out 1).trans rfl
            have hq2_ : w'.cell? ⟨g6, 2, none⟩ = some (.int .i64 er) := (blk_cell B6.out 2).trans rfl
            refine value_ (w1 := w') (v := .agg #[.slice A l.length c, .int .i64 (at_ : Int), .int .i64 er]) (by rfl) rfl ?_ ?_
            · go_simp
              (try simp only [i64_w])
              try rfl
              all_goals (try (unfold wrap64; omega))
            refine hK.out _ _ ⟨at2, A10, c10, g9, m6_, m7_, m8_, m9_, m10_, m12_, (by rw [ha.out]; exact putSel_upk 0 hb_ rfl rfl rfl), Q_HB, Q_HK, Q_B6, fun h0_ => absurd ((hoff 6 (by kernel_rfl)).symm.trans h0_) (by decide), fun h0_ => absurd ((hoff 6 (by kernel_rfl)).symm.trans h0_) (by decide), Q_B9, Q_G9, fun h0_ => absurd ((hoff 11 (by kernel_rfl)).symm.trans h0_) (by decide), fun h0_ => absurd ((hoff 6 (by kernel_rfl)).symm.trans h0_) (by decide), fun h0_ => absurd ((hoff 7 (by kernel_rfl)).symm.trans h0_) (by decide), fun h0_ => absurd ((hoff 8 (by kernel_rfl)).symm.trans h0_) (by decide), fun h0_ => absurd ((hoff 9 (by kernel_rfl)).symm.trans h0_) (by decide), Q_X10_, fun h0_ => absurd ((hoff 12 (by kernel_rfl)).symm.trans h0_) (by decide)⟩
          refine steps_cons ?_ ?_
          · rintro b a w' ⟨at2, A10, c10, g9, m6_, m7_, m8_, m9_, m10_, m12_, ha, Q_HB, Q_HK, Q_B6, Q_HAT, Q_HY, Q_B9, Q_G9, Q_B9b, Q_X6_, Q_X7_, Q_X8_, Q_X9_, Q_X10_, Q_X12_⟩ hb_ hon hoff
            refine ⟨_, rfl, fun K hK => ?_⟩
            have e1 : a.tmps[1]? = some (.slice (some ad) ops.length d) := by rw [ha]; exact (putSel_off rfl).trans rfl
            replace ha := Aside0.mk ha
            have HB := Aside0.mk Q_HB
            have HK := Aside0.mk Q_HK
            have B6 := Aside0.mk Q_B6
            refine value_ (w1 := w') (v := .slice (some ad) ops.length d) (by rfl) rfl ?_ ?_
            · go_simp
              (try simp only [i64_w])
              try rfl
              all_goals (try (unfold wrap64; omega))
            refine hK.out _ _ ⟨at2, A10, c10, g9, m6_, m7_, m8_, m9_, m10_, m12_, (by rw [ha.out]; exact putSel_upk 1 hb_ rfl rfl rfl), Q_HB, Q_HK, Q_B6, fun h0_ => absurd ((hoff 6 (by kernel_rfl)).symm.trans h0_) (by decide), fun h0_ => absurd ((hoff 6 (by kernel_rfl)).symm.trans h0_) (by decide), Q_B9, Q_G9, fun h0_ => absurd ((hoff 11 (by kernel_rfl)).symm.trans h0_) (by decide), fun h0_ => absurd ((hoff 6 (by kernel_rfl)).symm.trans h0_) (by decide), fun h0_ => absurd ((hoff 7 (by kernel_rfl)).symm.trans h0_) (by decide), fun h0_ => absurd ((hoff 8 (by kernel_rfl)).symm.trans h0_) (by decide), fun h0_ => absurd ((hoff 9 (by kernel_rfl)).symm.trans h0_) (by decide), Q_X10_, fun h0_ => absurd ((hoff 12 (by kernel_rfl)).symm.trans h0_) (by decide)⟩
          refine steps_cons ?_ ?_
          · rintro b a w' ⟨at2, A10, c10, g9, m6_, m7_, m8_, m9_, m10_, m12_, ha, Q_HB, Q_HK, Q_B6, Q_HAT, Q_HY, Q_B9, Q_G9, Q_B9b, Q_X6_, Q_X7_, Q_X8_, Q_X9_, Q_X10_, Q_X12_⟩ hb_ hon hoff
            refine ⟨_, rfl, fun K hK => ?_⟩
            have e7 : a.tmps[7]? = some (.int .i64 (i : Int)) := by rw [ha]; exact (putSel_off rfl).trans rfl
            replace ha := Aside0.mk ha
            have HB := Aside0.mk Q_HB
            have HK := Aside0.mk Q_HK
            have B6 := Aside0.mk Q_B6
            refine value_ (w1 := w') (v := .int .i64 (i : Int)) (by rfl) rfl ?_ ?_
            · go_simp
              (try simp only [i64_w])
              try rfl
              all_goals (try (unfold wrap64; omega))
            refine hK.out _ _ ⟨at2, A10, c10, g9, m6_, m7_, m8_, m9_, m10_, m12_, (by rw [ha.out]; exact putSel_upk 2 hb_ rfl rfl rfl), Q_HB, Q_HK, Q_B6, fun h0_ => absurd ((hoff 6 (by kernel_rfl)).symm.trans h0_) (by decide), fun h0_ => absurd ((hoff 6 (by kernel_rfl)).symm.trans h0_) (by decide), Q_B9, Q_G9, fun h0_ => absurd ((hoff 11 (by kernel_rfl)).symm.trans h0_) (by decide), fun h0_ => absurd ((hoff 6 (by kernel_rfl)).symm.trans h0_) (by decide), fun h0_ => absurd ((hoff 7 (by kernel_rfl)).symm.trans h0_) (by decide), fun h0_ => absurd ((hoff 8 (by kernel_rfl)).symm.trans h0_) (by decide), fun h0_ => absurd ((hoff 9 (by kernel_rfl)).symm.trans h0_) (by decide), Q_X10_, fun h0_ => absurd ((hoff 12 (by kernel_rfl)).symm.trans h0_) (by decide)⟩
          refine steps_cons ?_ ?_
          · rintro b a w' ⟨at2, A10, c10, g9, m6_, m7_, m8_, m9_, m10_, m12_, ha, Q_HB, Q_HK, Q_B6, Q_HAT, Q_HY, Q_B9, Q_G9, Q_B9b, Q_X6_, Q_X7_, Q_X8_, Q_X9_, Q_X10_, Q_X12_⟩ hb_ hon hoff
            refine ⟨_, rfl, fun K hK => ?_⟩
            have e49 : a.tmps[49]? = some (.slice (some ad) ops.length d) := by rw [ha]; exact putSel_on (e := (1, 49, .slice (some ad) ops.length d)) 1 rfl rfl (hon 1 (by kernel_rfl)) rfl
            have e50 : a.tmps[50]? = some (.int .i64 (i : Int)) := by rw [ha]; exact putSel_on (e := (2, 50, .int .i64 (i : Int))) 2 rfl rfl (hon 2 (by kernel_rfl)) rfl
            replace ha := Aside0.mk ha
            have HB := Aside0.mk Q_HB
            have HK := Aside0.mk Q_HK
            have B6 := Aside0.mk Q_B6
            refine value_ (w1 := w') (v := .pointer (some (ad.add (i * 2)))) (by rfl) rfl ?_ ?_
            · go_simp
              (try simp only [i64_w])
              try rfl
              all_goals (try (unfold wrap64; omega))
            refine hK.out _ _ ⟨at2, A10, c10, g9, m6_, m7_, m8_, m9_, m10_, m12_, (by rw [ha.out]; exact putSel_upk 3 hb_ rfl rfl rfl), Q_HB, Q_HK, Q_B6, fun h0_ => absurd ((hoff 6 (by kernel_rfl)).symm.trans h0_) (by decide), fun h0_ => absurd ((hoff 6 (by kernel_rfl)).symm.trans h0_) (by decide), Q_B9, Q_G9, fun h0_ => absurd ((hoff 11 (by kernel_rfl)).symm.trans h0_) (by decide), fun h0_ => absurd ((hoff 6 (by kernel_rfl)).symm.trans h0_) (by decide), fun h0_ => absurd ((hoff 7 (by kernel_rfl)).symm.trans h0_) (by decide), fun h0_ => absurd ((hoff 8 (by kernel_rfl)).symm.trans h0_) (by decide), fun h0_ => absurd ((hoff 9 (by kernel_rfl)).symm.trans h0_) (by decide), Q_X10_, fun h0_ => absurd ((hoff 12 (by kernel_rfl)).symm.trans h0_) (by decide)⟩
          refine steps_cons ?_ ?_
          · rintro b a w' ⟨at2, A10, c10, g9, m6_, m7_, m8_, m9_, m10_, m12_, ha, Q_HB, Q_HK, Q_B6, Q_HAT, Q_HY, Q_B9, Q_G9, Q_B9b, Q_X6_, Q_X7_, Q_X8_, Q_X9_, Q_X10_, Q_X12_⟩ hb_ hon hoff
            refine ⟨_, rfl, fun K hK => ?_⟩
            have e51 : a.tmps[51]? = some (.pointer (some (ad.add (i * 2)))) := by rw [ha]; exact putSel_on (e := (3, 51, .pointer (some (ad.add (i * 2))))) 3 rfl rfl (hon 3 (by kernel_rfl)) rfl
            replace ha := Aside0.mk ha
            have HB := Aside0.mk Q_HB
            have HK := Aside0.mk Q_HK
            have B6 := Aside0.mk Q_B6
            refine value_ (w1 := w') (v := .pointer (some (ad.add (i * 2)))) (by rfl) rfl ?_ ?_
            · go_simp
              (try simp only [i64_w])
              try rfl
              all_goals (try (unfold wrap64; omega))
            refine hK.out _ _ ⟨at2, A10, c10, g9, m6_, m7_, m8_, m9_, m10_, m12_, (by rw [ha.out]; exact putSel_upk 4 hb_ rfl rfl rfl), Q_HB, Q_HK, Q_B6, fun h0_ => absurd ((hoff 6 (by kernel_rfl)).symm.trans h0_) (by decide), fun h0_ => absurd ((hoff 6 (by kernel_rfl)).symm.trans h0_) (by decide), Q_B9, Q_G9, fun h0_ => absurd ((hoff 11 (by kernel_rfl)).symm.trans h0_) (by decide), fun h0_ => absurd ((hoff 6 (by kernel_rfl)).symm.trans h0_) (by decide), fun h0_ => absurd ((hoff 7 (by kernel_rfl)).symm.trans h0_) (by decide), fun h0_ => absurd ((hoff 8 (by kernel_rfl)).symm.trans h0_) (by decide), fun h0_ => absurd ((hoff 9 (by kernel_rfl)).symm.trans h0_) (by decide), Q_X10_, fun h0_ => absurd ((hoff 12 (by kernel_rfl)).symm.trans h0_) (by decide)⟩
          refine steps_cons ?_ ?_
          · rintro b a w' ⟨at2, A10, c10, g9, m6_, m7_, m8_, m9_, m10_, m12_, ha, Q_HB, Q_HK, Q_B6, Q_HAT, Q_HY, Q_B9, Q_G9, Q_B9b, Q_X6_, Q_X7_, Q_X8_, Q_X9_, Q_X10_, Q_X12_⟩ hb_ hon hoff
            refine ⟨_, rfl, fun K hK => ?_⟩
            have e52 : a.tmps[52]? = some (.pointer (some (ad.add (i * 2)))) := by rw [ha]; exact putSel_on (e := (4, 52, .pointer (some (ad.add (i * 2))))) 4 rfl rfl (hon 4 (by kernel_rfl)) rfl
            replace ha := Aside0.mk ha
            have HB := Aside0.mk Q_HB
            have HK := Aside0.mk Q_HK
            have B6 := Aside0.mk Q_B6
            have hc_ := HOP.out w' HB.out
            refine value_ (w1 := w') (v := .int .i64 n) (by rfl) rfl ?_ ?_
            · go_simp
              (try simp only [i64_w])
              try rfl
              all_goals (try (unfold wrap64; omega))
            refine hK.out _ _ ⟨at2, A10, c10, g9, m6_, m7_, m8_, m9_, m10_, m12_, (by rw [ha.out]; exact putSel_upk 5 hb_ rfl rfl rfl), Q_HB, Q_HK, Q_B6, fun h0_ => absurd ((hoff 6 (by kernel_rfl)).symm.trans h0_) (by decide), fun h0_ => absurd ((hoff 6 (by kernel_rfl)).symm.trans h0_) (by decide), Q_B9, Q_G9, fun h0_ => absurd ((hoff 11 (by kernel_rfl)).symm.trans h0_) (by decide), fun h0_ => absurd ((hoff 6 (by kernel_rfl)).symm.trans h0_) (by decide), fun h0_ => absurd ((hoff 7 (by kernel_rfl)).symm.trans h0_) (by decide), fun h0_ => absurd ((hoff 8 (by kernel_rfl)).symm.trans h0_) (by decide), fun h0_ => absurd ((hoff 9 (by kernel_rfl)).symm.trans h0_) (by decide), Q_X10_, fun h0_ => absurd ((hoff 12 (by kernel_rfl)).symm.trans h0_) (by decide)⟩
          refine steps_cons ?_ ?_
          · rintro b a w' ⟨at2, A10, c10, g9, m6_, m7_, m8_, m9_, m10_, m12_, ha, Q_HB, Q_HK, Q_B6, Q_HAT, Q_HY, Q_B9, Q_G9, Q_B9b, Q_X6_, Q_X7_, Q_X8_, Q_X9_, Q_X10_, Q_X12_⟩ hb_ hon hoff
            refine ⟨_, rfl, fun K hK => ?_⟩
            have e48 : a.tmps[48]? = some (.agg #[.slice A l.length c, .int .i64 (at_ : Int), .int .i64 er]) := by rw [ha]; exact putSel_on (e := (0, 48, .agg #[.slice A l.length c, .int .i64 (at_ : Int), .int .i64 er])) 0 rfl rfl (hon 0 (by kernel_rfl)) rfl
            have e53 : a.tmps[53]? = some (.int .i64 n) := by rw [ha]; exact putSel_on (e := (5, 53, .int .i64 n)) 5 rfl rfl (hon 5 (by kernel_rfl)) rfl
            replace ha := Aside0.mk ha
            have HB := Aside0.mk Q_HB
            have HK := Aside0.mk Q_HK
            have B6 := Aside0.mk Q_B6
            refine goes_ Try.func19 (by kernel_rfl) rfl #[.agg #[.slice A l.length c, .int .i64 (at_ : Int), .int .i64 er], .int .i64 n] (by rfl) rfl rfl (by first | (simp only [List.map_toArray, List.map_cons, List.map_nil, Act.eval, Array.getD_eq_getD_getElem?, Option.getD_some, e48, e53]; done) | (simp only [List.map_toArray, List.map_cons, List.map_nil, Act.eval, Array.getD_eq_getD_getElem?, Option.getD_some, e48, e53]; rfl)) ?_
            refine (HRC.out w' (Kd.C_below HA.out HB.out)).mono ?_
            rintro e w2_ ⟨v_, at2_, rfl, hle_, hdr_, hv, hb⟩
            obtain ⟨A10_, c10_, e10_⟩ := Kd.R_slice hv
            subst e10_
            refine ⟨_, rfl, ?_⟩
            refine hK.out _ _ ⟨at2_, A10_, c10_, g9, (.tuple #[.agg #[.slice A l.length c, .int .i64 (at2_ : Int), .int .i64 E], .slice A10_ O.length c10_]), m7_, m8_, m9_, m10_, m12_, (by rw [ha.out]; exact putSel_upk 6 hb_ rfl rfl rfl), below_then HB.out HB.out.size hb, HK.out.below hb, blk_below B6.out hb, fun _ => ⟨hle_, hdr_⟩, fun _ => Kd.R_lower hv HB.out.size, fun h0_ h1_ => blk_below (Q_B9 h0_ h1_) hb, Q_G9, fun h0_ => absurd ((hoff 11 (by kernel_rfl)).symm.trans h0_) (by decide), fun _ => rfl, fun h0_ => absurd ((hoff 7 (by kernel_rfl)).symm.trans h0_) (by decide), fun h0_ => absurd ((hoff 8 (by kernel_rfl)).symm.trans h0_) (by decide), fun h0_ => absurd ((hoff 9 (by kernel_rfl)).symm.trans h0_) (by decide), Q_X10_, fun h0_ => absurd ((hoff 12 (by kernel_rfl)).symm.trans h0_) (by decide)⟩
          refine steps_cons ?_ ?_
          · rintro b a w' ⟨at2, A10, c10, g9, m6_, m7_, m8_, m9_, m10_, m12_, ha, Q_HB, Q_HK, Q_B6, Q_HAT, Q_HY, Q_B9, Q_G9, Q_B9b, Q_X6_, Q_X7_, Q_X8_, Q_X9_, Q_X10_, Q_X12_⟩ hb_ hon hoff
            refine ⟨_, rfl, fun K hK => ?_⟩
            have e54 : a.tmps[54]? = some (m6_) := by rw [ha]; exact putSel_on (e := (6, 54, m6_)) 6 rfl rfl (hon 6 (by kernel_rfl)) rfl
            rw [Q_X6_ (hon 6 (by kernel_rfl))] at e54
            replace ha := Aside0.mk ha
            have HB := Aside0.mk Q_HB
            have HK := Aside0.mk Q_HK
            have B6 := Aside0.mk Q_B6
            have HAT := Aside0.mk (Q_HAT (hon 6 (by kernel_rfl)))
            have HY := Aside0.mk (Q_HY (hon 6 (by kernel_rfl)))
            refine value_ (w1 := w') (v := .tuple #[.agg #[.slice A l.length c, .int .i64 (at2 : Int), .int .i64 E], .slice A10 O.length c10]) (by rfl) rfl ?_ ?_
            · go_simp
              (try simp only [i64_w])
              try rfl
              all_goals (try (unfold wrap64; omega))
            refine hK.out _ _ ⟨at2, A10, c10, g9, m6_, (.tuple #[.agg #[.slice A l.length c, .int .i64 (at2 : Int), .int .i64 E], .slice A10 O.length c10]), m8_, m9_, m10_, m12_, (by rw [ha.out]; exact putSel_upk 7 hb_ rfl rfl rfl), Q_HB, Q_HK, Q_B6, Q_HAT, Q_HY, Q_B9, Q_G9, fun h0_ => absurd ((hoff 11 (by kernel_rfl)).symm.trans h0_) (by decide), Q_X6_, fun _ => rfl, fun h0_ => absurd ((hoff 8 (by kernel_rfl)).symm.trans h0_) (by decide), fun h0_ => absurd ((hoff 9 (by kernel_rfl)).symm.trans h0_) (by decide), Q_X10_, fun h0_ => absurd ((hoff 12 (by kernel_rfl)).symm.trans h0_) (by decide)⟩
          refine steps_cons ?_ ?_
          · rintro b a w' ⟨at2, A10, c10, g9, m6_, m7_, m8_, m9_, m10_, m12_, ha, Q_HB, Q_HK, Q_B6, Q_HAT, Q_HY, Q_B9, Q_G9, Q_B9b, Q_X6_, Q_X7_, Q_X8_, Q_X9_, Q_X10_, Q_X12_⟩ hb_ hon hoff
            refine ⟨_, rfl, fun K hK => ?_⟩
            have e47 : a.tmps[47]? = some (m7_) := by rw [ha]; exact putSel_on (e := (7, 47, m7_)) 7 rfl rfl (hon 7 (by kernel_rfl)) rfl
            rw [Q_X7_ (hon 7 (by kernel_rfl))] at e47
            replace ha := Aside0.mk ha
            have HB := Aside0.mk Q_HB
            have HK := Aside0.mk Q_HK
            have B6 := Aside0.mk Q_B6
            have HAT := Aside0.mk (Q_HAT (hon 6 (by kernel_rfl)))
            have HY := Aside0.mk (Q_HY (hon 6 (by kernel_rfl)))
            refine value_ (w1 := w') (v := .agg #[.slice A l.length c, .int .i64 (at2 : Int), .int .i64 E]) (by rfl) rfl ?_ ?_
            · go_simp
              (try simp only [i64_w])
              try rfl
              all_goals (try (unfold wrap64; omega))
            refine hK.out _ _ ⟨at2, A10, c10, g9, m6_, m7_, (.agg #[.slice A l.length c, .int .i64 (at2 : Int), .int .i64 E]), m9_, m10_, m12_, (by rw [ha.out]; exact putSel_upk 8 hb_ rfl rfl rfl), Q_HB, Q_HK, Q_B6, Q_HAT, Q_HY, Q_B9, Q_G9, fun h0_ => absurd ((hoff 11 (by kernel_rfl)).symm.trans h0_) (by decide), Q_X6_, Q_X7_, fun _ => rfl, Q_X9_, Q_X10_, fun h0_ => absurd ((hoff 12 (by kernel_rfl)).symm.trans h0_) (by decide)⟩
          refine steps_cons ?_ ?_
          · rintro b a w' ⟨at2, A10, c10, g9, m6_, m7_, m8_, m9_, m10_, m12_, ha, Q_HB, Q_HK, Q_B6, Q_HAT, Q_HY, Q_B9, Q_G9, Q_B9b, Q_X6_, Q_X7_, Q_X8_, Q_X9_, Q_X10_, Q_X12_⟩ hb_ hon hoff
            refine ⟨_, rfl, fun K hK => ?_⟩
            have e47 : a.tmps[47]? = some (m7_) := by rw [ha]; exact putSel_on (e := (7, 47, m7_)) 7 rfl rfl (hon 7 (by kernel_rfl)) rfl
            rw [Q_X7_ (hon 7 (by kernel_rfl))] at e47
            replace ha := Aside0.mk ha
            have HB := Aside0.mk Q_HB
            have HK := Aside0.mk Q_HK
            have B6 := Aside0.mk Q_B6
            have HAT := Aside0.mk (Q_HAT (hon 6 (by kernel_rfl)))
            have HY := Aside0.mk (Q_HY (hon 6 (by kernel_rfl)))
            refine value_ (w1 := w') (v := .slice A10 O.length c10) (by rfl) rfl ?_ ?_
            · go_simp
              (try simp only [i64_w])
              try rfl
              all_goals (try (unfold wrap64; omega))
            refine hK.out _ _ ⟨at2, A10, c10, g9, m6_, m7_, m8_, (.slice A10 O.length c10), m10_, m12_, (by rw [ha.out]; exact putSel_upk 9 hb_ rfl rfl rfl), Q_HB, Q_HK, Q_B6, Q_HAT, Q_HY, Q_B9, Q_G9, Q_B9b, Q_X6_, Q_X7_, Q_X8_, fun _ => rfl, Q_X10_, fun h0_ => absurd ((hoff 12 (by kernel_rfl)).symm.trans h0_) (by decide)⟩
          refine steps_cons ?_ ?_
          · rintro b a w' ⟨at2, A10, c10, g9, m6_, m7_, m8_, m9_, m10_, m12_, ha, Q_HB, Q_HK, Q_B6, Q_HAT, Q_HY, Q_B9, Q_G9, Q_B9b, Q_X6_, Q_X7_, Q_X8_, Q_X9_, Q_X10_, Q_X12_⟩ hb_ hon hoff
            refine ⟨_, rfl, fun K hK => ?_⟩
            replace ha := Aside0.mk ha
            have HB := Aside0.mk Q_HB
            have HK := Aside0.mk Q_HK
            have B6 := Aside0.mk Q_B6
            refine value_ (w1 := w'.alloc (.cells #[.slice none 0 0, .int .i64 0, .int .i64 0] 43)) (v := .pointer (some ⟨w'.heap.size, 0, none⟩)) (by rfl) rfl ?_ ?_
            · go_simp
              try rfl
              all_goals (try (unfold wrap64; omega))
            have hb : Below w'.heap.size w' (w'.alloc (.cells #[.slice none 0 0, .int .i64 0, .int .i64 0] 43)) := below_alloc (Below.refl _ _) _
            have hn69 : g6 ≠ w'.heap.size := by have := blk_lt B6.out; omega
            refine hK.out _ _ ⟨at2, A10, c10, w'.heap.size, m6_, m7_, m8_, m9_, (.pointer (some ⟨w'.heap.size, 0, none⟩)), m12_, (by rw [ha.out]; exact putSel_upk 10 hb_ rfl rfl rfl), below_then HB.out HB.out.size hb, HK.out.below hb, blk_below B6.out hb, Q_HAT, fun h0_ => Kd.R_below (Q_HY h0_) hb, fun _ _ => blk_new _ _, fun _ => ⟨HK.out.1, HB.out.size, hn69⟩, fun h0_ => absurd ((hoff 11 (by kernel_rfl)).symm.trans h0_) (by decide), Q_X6_, Q_X7_, Q_X8_, Q_X9_, fun _ => rfl, fun h0_ => absurd ((hoff 12 (by kernel_rfl)).symm.trans h0_) (by decide)⟩
          refine steps_cons ?_ ?_
          · rintro b a w' ⟨at2, A10, c10, g9, m6_, m7_, m8_, m9_, m10_, m12_, ha, Q_HB, Q_HK, Q_B6, Q_HAT, Q_HY, Q_B9, Q_G9, Q_B9b, Q_X6_, Q_X7_, Q_X8_, Q_X9_, Q_X10_, Q_X12_⟩ hb_ hon hoff
            refine ⟨_, rfl, fun K hK => ?_⟩
            have e9 : a.tmps[9]? = some (m10_) := by rw [ha]; exact putSel_on (e := (10, 9, m10_)) 10 rfl rfl (hon 10 (by kernel_rfl)) rfl
            rw [Q_X10_ (hon 10 (by kernel_rfl))] at e9
            have e55 : a.tmps[55]? = some (m8_) := by rw [ha]; exact putSel_on (e := (8, 55, m8_)) 8 rfl rfl (hon 8 (by kernel_rfl)) rfl
            rw [Q_X8_ (hon 8 (by kernel_rfl))] at e55
            replace ha := Aside0.mk ha
            have HB := Aside0.mk Q_HB
            have HK := Aside0.mk Q_HK
            have B6 := Aside0.mk Q_B6
            have HAT := Aside0.mk (Q_HAT (hon 6 (by kernel_rfl)))
            have HY := Aside0.mk (Q_HY (hon 6 (by kernel_rfl)))
            have B9 := Aside0.mk (Q_B9 (hon 10 (by kernel_rfl)) hb_)
            have G9 := Aside0.mk (Q_G9 (hon 10 (by kernel_rfl)))
            have kq0_ : w'.cell? ⟨g9, 0, none⟩ = some (.slice none 0 0) := (blk_cell B9.out 0).trans rfl
            have kq1_ : w'.cell? ⟨g9, 1, none⟩ = some (.int .i64 0) := (blk_cell B9.out 1).trans rfl
            have kq2_ : w'.cell? ⟨g9, 2, none⟩ = some (.int .i64 0) := (blk_cell B9.out 2).trans rfl
            have kf0_ := blk_frozen B9.out 0
            have kf1_ := blk_frozen B9.out 1
            have kf2_ := blk_frozen B9.out 2
            refine skip_ (w1 := ((w'.setCell ⟨g9, 0, none⟩ (.slice A l.length c)).setCell ⟨g9, 1, none⟩ (.int .i64 (at2 : Int))).setCell ⟨g9, 2, none⟩ (.int .i64 E)) (by rfl) rfl ?_ ?_
            · go_simp
              try rfl
              all_goals (try (unfold wrap64; omega))
            refine hK.out _ _ ⟨at2, A10, c10, g9, m6_, m7_, m8_, m9_, m10_, m12_, (by rw [ha.out]; exact putSel_none (v := undef) rfl), below_put3 _ _ _ HB.out HB.out.size G9.out.2.1, HK.out.put3 (.inr G9.out.1) _ _ _, blk_far (blk_far (blk_far B6.out G9.out.2.2 _) G9.out.2.2 _) G9.out.2.2 _, Q_HAT, fun _ => Kd.R_mono (Kd.R_far (p := ⟨g9, 2, none⟩) (Kd.R_far (p := ⟨g9, 1, none⟩) (Kd.R_far (p := ⟨g9, 0, none⟩) (Kd.R_types HY.out B9.out (by intro q hq; simp [Kd.int, Kd.scalar] at hq; omega)) (fun _ h => h.2) _) (fun _ h => h.2) _) (fun _ h => h.2) _) (fun _ _ => trivial), fun _ h1_ => absurd ((up_self b 11).symm.trans h1_) (by decide), Q_G9, fun _ => put3 _ _ _ B9.out, Q_X6_, Q_X7_, Q_X8_, Q_X9_, Q_X10_, fun h0_ => absurd ((hoff 12 (by kernel_rfl)).symm.trans h0_) (by decide)⟩
          refine steps_cons ?_ ?_
          · rintro b a w' ⟨at2, A10, c10, g9, m6_, m7_, m8_, m9_, m10_, m12_, ha, Q_HB, Q_HK, Q_B6, Q_HAT, Q_HY, Q_B9, Q_G9, Q_B9b, Q_X6_, Q_X7_, Q_X8_, Q_X9_, Q_X10_, Q_X12_⟩ hb_ hon hoff
            refine ⟨_, rfl, fun K hK => ?_⟩
            have e56 : a.tmps[56]? = some (m9_) := by rw [ha]; exact putSel_on (e := (9, 56, m9_)) 9 rfl rfl (hon 9 (by kernel_rfl)) rfl
            rw [Q_X9_ (hon 9 (by kernel_rfl))] at e56
            replace ha := Aside0.mk ha
            have HB := Aside0.mk Q_HB
            have HK := Aside0.mk Q_HK
            have B6 := Aside0.mk Q_B6
            have HAT := Aside0.mk (Q_HAT (hon 6 (by kernel_rfl)))
            have HY := Aside0.mk (Q_HY (hon 6 (by kernel_rfl)))
            have G9 := Aside0.mk (Q_G9 (hon 10 (by kernel_rfl)))
            have B9b := Aside0.mk (Q_B9b (hon 11 (by kernel_rfl)))
            refine value_ (w1 := w') (v := .slice A10 O.length c10) (by rfl) rfl ?_ ?_
            · go_simp
              (try simp only [i64_w])
              try rfl
              all_goals (try (unfold wrap64; omega))
            refine hK.out _ _ ⟨at2, A10, c10, g9, m6_, m7_, m8_, m9_, m10_, (.slice A10 O.length c10), (by rw [ha.out]; exact putSel_upk 11 hb_ rfl rfl rfl), Q_HB, Q_HK, Q_B6, Q_HAT, Q_HY, fun _ h1_ => absurd ((hon 11 (by kernel_rfl)).symm.trans h1_) (by decide), Q_G9, Q_B9b, Q_X6_, Q_X7_, Q_X8_, Q_X9_, Q_X10_, fun _ => rfl⟩
          exact steps_nil
        rintro b a w6 hall ⟨at2, A10, c10, g9, m6_, m7_, m8_, m9_, m10_, m12_, ha, Q_HB, Q_HK, Q_B6, Q_HAT, Q_HY, Q_B9, Q_G9, Q_B9b, Q_X6_, Q_X7_, Q_X8_, Q_X9_, Q_X10_, Q_X12_⟩
        clear B6 HB HK
        have hb0_ := hall 0 (by kernel_rfl)
        have hb1_ := hall 1 (by kernel_rfl)
        have hb2_ := hall 2 (by kernel_rfl)
        have hb3_ := hall 3 (by kernel_rfl)
        have hb4_ := hall 4 (by kernel_rfl)
        have hb5_ := hall 5 (by kernel_rfl)
        have hb6_ := hall 6 (by kernel_rfl)
        have hb7_ := hall 7 (by kernel_rfl)
        have hb8_ := hall 8 (by kernel_rfl)
        have hb9_ := hall 9 (by kernel_rfl)
        have hb10_ := hall 10 (by kernel_rfl)
        have hb11_ := hall 11 (by kernel_rfl)
        have hb12_ := hall 12 (by kernel_rfl)
        subst ha
        obtain rfl := Q_X6_ hb6_
        obtain rfl := Q_X7_ hb7_
        obtain rfl := Q_X8_ hb8_
        obtain rfl := Q_X9_ hb9_
        obtain rfl := Q_X10_ hb10_
        obtain rfl := Q_X12_ hb12_
        simp only [putSel, hb0_, hb1_, hb2_, hb3_, hb4_, hb5_, hb6_, hb7_, hb8_, hb9_, hb10_, hb11_, hb12_, if_true, Act.put, List.setIfInBounds_toArray, List.set_cons_zero, List.set_cons_succ]
        have HB := Aside0.mk Q_HB
        clear Q_HB
        have HK := Aside0.mk Q_HK
        clear Q_HK
        have B6 := Aside0.mk Q_B6
        clear Q_B6
        have HAT := Aside0.mk (Q_HAT hb6_)
        clear Q_HAT
        have HY := Aside0.mk (Q_HY hb6_)
        clear Q_HY
        clear Q_B9
        have G9 := Aside0.mk (Q_G9 hb10_)
        clear Q_G9
        have B9b := Aside0.mk (Q_B9b hb11_)
        clear Q_B9b
        clear hall hb0_ hb1_ hb2_ hb3_ hb4_ hb5_ hb6_ hb7_ hb8_ hb9_ hb10_ hb11_ hb12_

        obtain ⟨hat2, hdr2⟩ := HAT.out
        have HN69 := Aside0.mk G9.out.2.2
        have HDR := Aside0.mk hdr2
        clear hdr2 HAT
        have mq0_ : w6.cell? ⟨g9, 0, none⟩ = some (.slice A l.length c) := (blk_cell B9b.out 0).trans rfl
        have mq1_ : w6.cell? ⟨g9, 1, none⟩ = some (.int .i64 (at2 : Int)) := (blk_cell B9b.out 1).trans rfl
        have mq2_ : w6.cell? ⟨g9, 2, none⟩ = some (.int .i64 E) := (blk_cell B9b.out 2).trans rfl
        have nq0_ : w6.cell? ⟨g6, 0, none⟩ = some (.slice A l.length c) := (blk_cell B6.out 0).trans rfl
        have nq1_ : w6.cell? ⟨g6, 1, none⟩ = some (.int .i64 (at_ : Int)) := (blk_cell B6.out 1).trans rfl
        have nq2_ : w6.cell? ⟨g6, 2, none⟩ = some (.int .i64 er) := (blk_cell B6.out 2).trans rfl
        have nf0_ := blk_frozen B6.out 0
        have nf1_ := blk_frozen B6.out 1
        have nf2_ := blk_frozen B6.out 2
        go_wp2_with ((with_reducible refine gate_store (t := 43) (p := 6) rfl ?_); refine store_event (t := 43) (p := 6) (v := .tmp 57) (w1 := ((w6.setCell ⟨g6, 0, none⟩ (.slice A l.length c)).setCell ⟨g6, 1, none⟩ (.int .i64 (at2 : Int))).setCell ⟨g6, 2, none⟩ (.int .i64 E)) ?hg ?ho ?hn ?hr ?_; (case ho => rfl); (case hg => rfl); (case hn => rfl); (case hr => first | (go_simp; done) | (go_simp; rfl)); intro w7 hw7; clear mq0_ mq1_ mq2_ nq0_ nq1_ nq2_ nf0_ nf1_ nf2_; have B67 : Aside0 (w7.heap[g6]? = some (.cells #[.slice A l.length c, .int .i64 (at2 : Int), .int .i64 E] 43 (0, 0))) := ⟨(by rw [hw7]; exact put3 _ _ _ B6.out)⟩; have HB7 : Aside0 (Below w.heap.size w w7) := ⟨(by rw [hw7]; exact below_put3 _ _ _ HB.out HB.out.size HG6.out)⟩; have HK7 : Aside0 (KeepX w3 w7 g6) := ⟨(by rw [hw7]; exact HK.out.put3 (.inl rfl) _ _ _)⟩; have HC10 : Aside0 (Kd.C (Kd.int .u8) w7 A10 O.length O) := ⟨(by rw [hw7]; exact (Kd.R_reads' (Kd.R_far (p := ⟨g6, 2, none⟩) (Kd.R_far (p := ⟨g6, 1, none⟩) (Kd.R_far (p := ⟨g6, 0, none⟩) (Kd.R_types HY.out B6.out (by intro q hq; simp [Kd.int, Kd.scalar] at hq; omega)) (fun _ h => h.2) _) (fun _ h => h.2) _) (fun _ h => h.2) _)).2.2)⟩; have hcv1 := conv (c := c8) (Kd.F_now (Kd.F_step HF.out (fun k hk hlt => HK7.out.2 k hlt hk.1))); have hcv2 := conv (c := c10) HC10.out; clear hw7)
        have HR7 := Aside0.mk ((HR3.out.step (fun k hk hlt => HK7.out.2 k hlt hk)).below (below_drew (Below.refl w7.heap.size w7)))
        have HLEFT : Aside0 (∀ W : World, Calls Try.prog 21 #[.agg #[.slice A l.length c, .int .i64 (at2 : Int), .int .i64 E]] W fun e w' => e = .returned (.int .i64 (L.length : Int)) ∧ Below W.heap.size W w') := ⟨fun W => by
          have := rleft (w := W) (B := A) (c := c) hl at2 hat2 E
          rw [HDR.out] at this
          exact this⟩
        clear B6 HB HK
        have B6 := Aside0.mk (blk_below B67.out (below_drew (Below.refl _ _)))
        have HB := Aside0.mk (below_drew HB7.out)
        clear hcv1 hcv2
        clear B67 HB7 HK7
        refine start_ (n := 12) (S := fun w' => True) (ds := []) #[false, false, false, false, false, false, false, false, false, false, false, false] (by kernel_rfl) rfl rfl trivial (fun hHeld => ?_)
        refine with_tabW r23a.tab23 r23a.bits23 (fun HT_ HW_ => ?_)
        refine inv_at [0, 1, 2, 3, 4, 5, 6, 7, 8, 9, 10, 11] (fun a0_ b a w' => a = putSel a0_ b [(0, 84, .pointer (some ⟨g, 0, none⟩)), (1, 85, .int .i64 (L.length : Int)), (2, 86, .agg #[.slice A l.length c, .int .i64 (at2 : Int), .int .i64 E]), (3, 87, .int .i64 (L.length : Int)), (4, 88, .bool false), (5, 89, .bool false), (6, 90, .pointer (some ⟨g, 0, none⟩)), (7, 91, .int .i64 E), (8, 92, .pointer (some ⟨g6, 2, none⟩)), (9, 93, .int .i64 E), (10, 94, .bool false), (11, 95, .bool false)] ∧ (Below w.heap.size w w') ∧ (Rdr w' w.heap.size (fun k => k ≠ g6) g L E) ∧ (w'.heap[g6]? = some (.cells #[.slice A l.length c, .int .i64 (at2 : Int), .int .i64 E] 43 (0, 0)))) HT_.out HW_.out (by kernel_rfl) (by kernel_rfl) ?_ ?_ ?_
        · exact ⟨by simp only [putSel, Bool.false_eq_true, if_false], HB.out, HR7.out, B6.out⟩
        · skip
          clear B6 HB HR7
          refine steps_cons ?_ ?_
          · rintro b a w' ⟨ha, Q_HB, Q_HR7, Q_B6⟩ hb_ hon hoff
            refine ⟨_, rfl, fun K hK => ?_⟩
            have e5 : a.tmps[5]? = some (.pointer (some ⟨g, 0, none⟩)) := by rw [ha]; exact (putSel_off rfl).trans rfl
            replace ha := Aside0.mk ha
            have HB := Aside0.mk Q_HB
            have HR7 := Aside0.mk Q_HR7
            have B6 := Aside0.mk Q_B6
            refine value_ (w1 := w') (v := .pointer (some ⟨g, 0, none⟩)) (by rfl) rfl ?_ ?_
            · go_simp
              (try simp only [i64_w])
              try rfl
              all_goals (try (unfold wrap64; omega))
            refine hK.out _ _ ⟨(by rw [ha.out]; exact putSel_upk 0 hb_ rfl rfl rfl), Q_HB, Q_HR7, Q_B6⟩
          refine steps_cons ?_ ?_
          · rintro b a w' ⟨ha, Q_HB, Q_HR7, Q_B6⟩ hb_ hon hoff
            refine ⟨_, rfl, fun K hK => ?_⟩
            have e84 : a.tmps[84]? = some (.pointer (some ⟨g, 0, none⟩)) := by rw [ha]; exact putSel_on (e := (0, 84, .pointer (some ⟨g, 0, none⟩))) 0 rfl rfl (hon 0 (by kernel_rfl)) rfl
            replace ha := Aside0.mk ha
            have HB := Aside0.mk Q_HB
            have HR7 := Aside0.mk Q_HR7
            have B6 := Aside0.mk Q_B6
            refine goes_ Try.func17 (by kernel_rfl) rfl #[.pointer (some ⟨g, 0, none⟩)] (by rfl) rfl rfl (by first | (simp only [List.map_toArray, List.map_cons, List.map_nil, Act.eval, Array.getD_eq_getD_getElem?, Option.getD_some, e84]; done) | (simp only [List.map_toArray, List.map_cons, List.map_nil, Act.eval, Array.getD_eq_getD_getElem?, Option.getD_some, e84]; rfl)) ?_
            refine (left_calls HR7.out).mono ?_
            rintro e w2_ ⟨rfl, rfl⟩
            have hb : Below w'.heap.size w' w' := Below.refl _ _
            refine ⟨_, rfl, ?_⟩
            refine hK.out _ _ ⟨(by rw [ha.out]; exact putSel_upk 1 hb_ rfl rfl rfl), below_then HB.out HB.out.size hb, HR7.out.below hb, blk_below B6.out hb⟩
          refine steps_cons ?_ ?_
          · rintro b a w' ⟨ha, Q_HB, Q_HR7, Q_B6⟩ hb_ hon hoff
            refine ⟨_, rfl, fun K hK => ?_⟩
            have e6 : a.tmps[6]? = some (.pointer (some ⟨g6, 0, none⟩)) := by rw [ha]; exact (putSel_off rfl).trans rfl
            replace ha := Aside0.mk ha
            have HB := Aside0.mk Q_HB
            have HR7 := Aside0.mk Q_HR7
            have B6 := Aside0.mk Q_B6
            have hq0_ : w'.cell? ⟨g6, 0, none⟩ = some (.slice A l.length c) := (blk_cell B6.out 0).trans rfl
            have hq1_ : w'.cell? ⟨g6, 1, none⟩ = some (.int .i64 (at2 : Int)) := (blk_cell B6.out 1).trans rfl
            have hq2_ : w'.cell? ⟨g6, 2, none⟩ = some (.int .i64 E) := (blk_cell B6.out 2).trans rfl
            refine value_ (w1 := w') (v := .agg #[.slice A l.length c, .int .i64 (at2 : Int), .int .i64 E]) (by rfl) rfl ?_ ?_
            · go_simp
              (try simp only [i64_w])
              try rfl
              all_goals (try (unfold wrap64; omega))
            refine hK.out _ _ ⟨(by rw [ha.out]; exact putSel_upk 2 hb_ rfl rfl rfl), Q_HB, Q_HR7, Q_B6⟩
          refine steps_cons ?_ ?_
          · rintro b a w' ⟨ha, Q_HB, Q_HR7, Q_B6⟩ hb_ hon hoff
            refine ⟨_, rfl, fun K hK => ?_⟩
            have e86 : a.tmps[86]? = some (.agg #[.slice A l.length c, .int .i64 (at2 : Int), .int .i64 E]) := by rw [ha]; exact putSel_on (e := (2, 86, .agg #[.slice A l.length c, .int .i64 (at2 : Int), .int .i64 E])) 2 rfl rfl (hon 2 (by kernel_rfl)) rfl
            replace ha := Aside0.mk ha
            have HB := Aside0.mk Q_HB
            have HR7 := Aside0.mk Q_HR7
            have B6 := Aside0.mk Q_B6
            refine goes_ Try.func21 (by kernel_rfl) rfl #[.agg #[.slice A l.length c, .int .i64 (at2 : Int), .int .i64 E]] (by rfl) rfl rfl (by first | (simp only [List.map_toArray, List.map_cons, List.map_nil, Act.eval, Array.getD_eq_getD_getElem?, Option.getD_some, e86]; done) | (simp only [List.map_toArray, List.map_cons, List.map_nil, Act.eval, Array.getD_eq_getD_getElem?, Option.getD_some, e86]; rfl)) ?_
            refine (HLEFT.out w').mono ?_
            rintro e w2_ ⟨rfl, hb⟩
            refine ⟨_, rfl, ?_⟩
            refine hK.out _ _ ⟨(by rw [ha.out]; exact putSel_upk 3 hb_ rfl rfl rfl), below_then HB.out HB.out.size hb, HR7.out.below hb, blk_below B6.out hb⟩
          refine steps_cons ?_ ?_
          · rintro b a w' ⟨ha, Q_HB, Q_HR7, Q_B6⟩ hb_ hon hoff
            refine ⟨_, rfl, fun K hK => ?_⟩
            have e85 : a.tmps[85]? = some (.int .i64 (L.length : Int)) := by rw [ha]; exact putSel_on (e := (1, 85, .int .i64 (L.length : Int))) 1 rfl rfl (hon 1 (by kernel_rfl)) rfl
            have e87 : a.tmps[87]? = some (.int .i64 (L.length : Int)) := by rw [ha]; exact putSel_on (e := (3, 87, .int .i64 (L.length : Int))) 3 rfl rfl (hon 3 (by kernel_rfl)) rfl
            replace ha := Aside0.mk ha
            have HB := Aside0.mk Q_HB
            have HR7 := Aside0.mk Q_HR7
            have B6 := Aside0.mk Q_B6
            refine value_ (w1 := w') (v := .bool false) (by rfl) rfl ?_ ?_
            · go_simp
              (try simp only [i64_w])
              try rfl
              all_goals (try (unfold wrap64; omega))
            refine hK.out _ _ ⟨(by rw [ha.out]; exact putSel_upk 4 hb_ rfl rfl rfl), Q_HB, Q_HR7, Q_B6⟩
          refine steps_cons ?_ ?_
          · rintro b a w' ⟨ha, Q_HB, Q_HR7, Q_B6⟩ hb_ hon hoff
            refine ⟨_, rfl, fun K hK => ?_⟩
            have e88 : a.tmps[88]? = some (.bool false) := by rw [ha]; exact putSel_on (e := (4, 88, .bool false)) 4 rfl rfl (hon 4 (by kernel_rfl)) rfl
            replace ha := Aside0.mk ha
            have HB := Aside0.mk Q_HB
            have HR7 := Aside0.mk Q_HR7
            have B6 := Aside0.mk Q_B6
            refine value_ (w1 := w') (v := .bool false) (by rfl) rfl ?_ ?_
            · go_simp
              (try simp only [i64_w])
              try rfl
              all_goals (try (unfold wrap64; omega))
            refine hK.out _ _ ⟨(by rw [ha.out]; exact putSel_upk 5 hb_ rfl rfl rfl), Q_HB, Q_HR7, Q_B6⟩
          refine steps_cons ?_ ?_
          · rintro b a w' ⟨ha, Q_HB, Q_HR7, Q_B6⟩ hb_ hon hoff
            refine ⟨_, rfl, fun K hK => ?_⟩
            have e5 : a.tmps[5]? = some (.pointer (some ⟨g, 0, none⟩)) := by rw [ha]; exact (putSel_off rfl).trans rfl
            have e89 : a.tmps[89]? = some (.bool false) := by rw [ha]; exact putSel_on (e := (5, 89, .bool false)) 5 rfl rfl (hon 5 (by kernel_rfl)) rfl
            replace ha := Aside0.mk ha
            have HB := Aside0.mk Q_HB
            have HR7 := Aside0.mk Q_HR7
            have B6 := Aside0.mk Q_B6
            refine value_ (w1 := w') (v := .pointer (some ⟨g, 0, none⟩)) (wanted_on rfl rfl rfl (e89.trans (by first | rfl | (simp [*]; done)))) rfl ?_ ?_
            · go_simp
              (try simp only [i64_w])
              try rfl
              all_goals (try (unfold wrap64; omega))
            refine hK.out _ _ ⟨(by rw [ha.out]; exact putSel_upk 6 hb_ rfl rfl rfl), Q_HB, Q_HR7, Q_B6⟩
          refine steps_cons ?_ ?_
          · rintro b a w' ⟨ha, Q_HB, Q_HR7, Q_B6⟩ hb_ hon hoff
            refine ⟨_, rfl, fun K hK => ?_⟩
            have e90 : a.tmps[90]? = some (.pointer (some ⟨g, 0, none⟩)) := by rw [ha]; exact putSel_on (e := (6, 90, .pointer (some ⟨g, 0, none⟩))) 6 rfl rfl (hon 6 (by kernel_rfl)) rfl
            have e89 : a.tmps[89]? = some (.bool false) := by rw [ha]; exact putSel_on (e := (5, 89, .bool false)) 5 rfl rfl (hon 5 (by kernel_rfl)) rfl
            replace ha := Aside0.mk ha
            have HB := Aside0.mk Q_HB
            have HR7 := Aside0.mk Q_HR7
            have B6 := Aside0.mk Q_B6
            refine goes_ Try.func16 (by kernel_rfl) rfl #[.pointer (some ⟨g, 0, none⟩)] (wanted_on rfl rfl rfl (e89.trans (by first | rfl | (simp [*]; done)))) rfl rfl (by first | (simp only [List.map_toArray, List.map_cons, List.map_nil, Act.eval, Array.getD_eq_getD_getElem?, Option.getD_some, e90, e89]; done) | (simp only [List.map_toArray, List.map_cons, List.map_nil, Act.eval, Array.getD_eq_getD_getElem?, Option.getD_some, e90, e89]; rfl)) ?_
            refine (err_calls HR7.out).mono ?_
            rintro e w2_ ⟨rfl, rfl⟩
            have hb : Below w'.heap.size w' w' := Below.refl _ _
            refine ⟨_, rfl, ?_⟩
            refine hK.out _ _ ⟨(by rw [ha.out]; exact putSel_upk 7 hb_ rfl rfl rfl), below_then HB.out HB.out.size hb, HR7.out.below hb, blk_below B6.out hb⟩
          refine steps_cons ?_ ?_
          · rintro b a w' ⟨ha, Q_HB, Q_HR7, Q_B6⟩ hb_ hon hoff
            refine ⟨_, rfl, fun K hK => ?_⟩
            have e6 : a.tmps[6]? = some (.pointer (some ⟨g6, 0, none⟩)) := by rw [ha]; exact (putSel_off rfl).trans rfl
            have e89 : a.tmps[89]? = some (.bool false) := by rw [ha]; exact putSel_on (e := (5, 89, .bool false)) 5 rfl rfl (hon 5 (by kernel_rfl)) rfl
            replace ha := Aside0.mk ha
            have HB := Aside0.mk Q_HB
            have HR7 := Aside0.mk Q_HR7
            have B6 := Aside0.mk Q_B6
            refine value_ (w1 := w') (v := .pointer (some ⟨g6, 2, none⟩)) (wanted_on rfl rfl rfl (e89.trans (by first | rfl | (simp [*]; done)))) rfl ?_ ?_
            · go_simp
              (try simp only [i64_w])
              try rfl
              all_goals (try (unfold wrap64; omega))
            refine hK.out _ _ ⟨(by rw [ha.out]; exact putSel_upk 8 hb_ rfl rfl rfl), Q_HB, Q_HR7, Q_B6⟩
          refine steps_cons ?_ ?_
          · rintro b a w' ⟨ha, Q_HB, Q_HR7, Q_B6⟩ hb_ hon hoff
            refine ⟨_, rfl, fun K hK => ?_⟩
            have e92 : a.tmps[92]? = some (.pointer (some ⟨g6, 2, none⟩)) := by rw [ha]; exact putSel_on (e := (8, 92, .pointer (some ⟨g6, 2, none⟩))) 8 rfl rfl (hon 8 (by kernel_rfl)) rfl
            have e89 : a.tmps[89]? = some (.bool false) := by rw [ha]; exact putSel_on (e := (5, 89, .bool false)) 5 rfl rfl (hon 5 (by kernel_rfl)) rfl
            replace ha := Aside0.mk ha
            have HB := Aside0.mk Q_HB
            have HR7 := Aside0.mk Q_HR7
            have B6 := Aside0.mk Q_B6
            have hq0_ : w'.cell? ⟨g6, 0, none⟩ = some (.slice A l.length c) := (blk_cell B6.out 0).trans rfl
            have hq1_ : w'.cell? ⟨g6, 1, none⟩ = some (.int .i64 (at2 : Int)) := (blk_cell B6.out 1).trans rfl
            have hq2_ : w'.cell? ⟨g6, 2, none⟩ = some (.int .i64 E) := (blk_cell B6.out 2).trans rfl
            refine value_ (w1 := w') (v := .int .i64 E) (wanted_on rfl rfl rfl (e89.trans (by first | rfl | (simp [*]; done)))) rfl ?_ ?_
            · go_simp
              (try simp only [i64_w])
              try rfl
              all_goals (try (unfold wrap64; omega))
            refine hK.out _ _ ⟨(by rw [ha.out]; exact putSel_upk 9 hb_ rfl rfl rfl), Q_HB, Q_HR7, Q_B6⟩
          refine steps_cons ?_ ?_
          · rintro b a w' ⟨ha, Q_HB, Q_HR7, Q_B6⟩ hb_ hon hoff
            refine ⟨_, rfl, fun K hK => ?_⟩
            have e91 : a.tmps[91]? = some (.int .i64 E) := by rw [ha]; exact putSel_on (e := (7, 91, .int .i64 E)) 7 rfl rfl (hon 7 (by kernel_rfl)) rfl
            have e93 : a.tmps[93]? = some (.int .i64 E) := by rw [ha]; exact putSel_on (e := (9, 93, .int .i64 E)) 9 rfl rfl (hon 9 (by kernel_rfl)) rfl
            have e89 : a.tmps[89]? = some (.bool false) := by rw [ha]; exact putSel_on (e := (5, 89, .bool false)) 5 rfl rfl (hon 5 (by kernel_rfl)) rfl
            replace ha := Aside0.mk ha
            have HB := Aside0.mk Q_HB
            have HR7 := Aside0.mk Q_HR7
            have B6 := Aside0.mk Q_B6
            refine value_ (w1 := w') (v := .bool false) (wanted_on rfl rfl rfl (e89.trans (by first | rfl | (simp [*]; done)))) rfl ?_ ?_
            · go_simp
              (try simp only [i64_w])
              try rfl
              all_goals (try (unfold wrap64; omega))
            refine hK.out _ _ ⟨(by rw [ha.out]; exact putSel_upk 10 hb_ rfl rfl rfl), Q_HB, Q_HR7, Q_B6⟩
          refine steps_cons ?_ ?_
          · rintro b a w' ⟨ha, Q_HB, Q_HR7, Q_B6⟩ hb_ hon hoff
            refine ⟨_, rfl, fun K hK => ?_⟩
            have e89 : a.tmps[89]? = some (.bool false) := by rw [ha]; exact putSel_on (e := (5, 89, .bool false)) 5 rfl rfl (hon 5 (by kernel_rfl)) rfl
            have e94 : a.tmps[94]? = some (.bool false) := by rw [ha]; exact putSel_on (e := (10, 94, .bool false)) 10 rfl rfl (hon 10 (by kernel_rfl)) rfl
            replace ha := Aside0.mk ha
            have HB := Aside0.mk Q_HB
            have HR7 := Aside0.mk Q_HR7
            have B6 := Aside0.mk Q_B6
            refine value_ (w1 := w') (v := .bool false) (by rfl) rfl ?_ ?_
            · go_simp
              (try simp only [i64_w])
              try rfl
              all_goals (try (unfold wrap64; omega))
            refine hK.out _ _ ⟨(by rw [ha.out]; exact putSel_upk 11 hb_ rfl rfl rfl), Q_HB, Q_HR7, Q_B6⟩
          exact steps_nil
        rintro b a w9 hall ⟨ha, Q_HB, Q_HR7, Q_B6⟩
        clear B6 HB HR7
        have hb0_ := hall 0 (by kernel_rfl)
        have hb1_ := hall 1 (by kernel_rfl)
        have hb2_ := hall 2 (by kernel_rfl)
        have hb3_ := hall 3 (by kernel_rfl)
        have hb4_ := hall 4 (by kernel_rfl)
        have hb5_ := hall 5 (by kernel_rfl)
        have hb6_ := hall 6 (by kernel_rfl)
        have hb7_ := hall 7 (by kernel_rfl)
        have hb8_ := hall 8 (by kernel_rfl)
        have hb9_ := hall 9 (by kernel_rfl)
        have hb10_ := hall 10 (by kernel_rfl)
        have hb11_ := hall 11 (by kernel_rfl)
        subst ha
        simp only [putSel, hb0_, hb1_, hb2_, hb3_, hb4_, hb5_, hb6_, hb7_, hb8_, hb9_, hb10_, hb11_, if_true, Act.put, List.setIfInBounds_toArray, List.set_cons_zero, List.set_cons_succ]
        have HB := Aside0.mk Q_HB
        clear Q_HB
        have HR7 := Aside0.mk Q_HR7
        clear Q_HR7
        have B6 := Aside0.mk Q_B6
        clear Q_B6
        clear hall hb0_ hb1_ hb2_ hb3_ hb4_ hb5_ hb6_ hb7_ hb8_ hb9_ hb10_ hb11_

        go_wp2_with fail
        go_roundg k
        case rel => exact ⟨i + 1, k, at2, E, rfl, by go_num, by omega, by omega, hat2, ⟨by rw [HDR.out]; exact HR7.out⟩, B6, HB⟩
        case measure => omega
      | false =>
        go_wp2_with fail
        have hrc : ∀ W : World, Kd.C (Kd.int .u8) W A l.length l → _ := fun W hW => ruint hW hc hl at_ hat er n HBY.out
        have hby := uint_calls HRd.out n
        generalize takeE (l.drop at_) er n (ub n) = E at *
        generalize takeL (l.drop at_) er n (ub n) = L at *
        generalize takeO (l.drop at_) er n (ub n) = O at *
        generalize uintF O = x at *
        have HRC := Aside0.mk hrc
        clear hrc
        refine hby.mono ?_
        clear hby
        rintro e w3 ⟨rfl, hR, hg⟩
        have HR3 := Aside0.mk hR
        have hne : some g6 ≠ some g := fun e => HRd.out.2.1 (Option.some.inj e).symm
        replace B6 := Aside0.mk (blk_below (blk_grown B6.out hg hne) (below_drew (Below.refl _ _)))
        replace HB := Aside0.mk (below_drew (HB.out.grown hg HB.out.size (by intro k hk; cases hk; exact HRd.out.1)))
        have HK := Aside0.mk ((KeepX.refl w3 g6).below (below_drew (Below.refl _ _)))
        clear hR hg hne HRd
        go_wp2_with fail
        refine start_ (n := 13) (S := fun w' => True) (ds := []) #[false, false, false, false, false, false, false, false, false, false, false, false, false] (by kernel_rfl) rfl rfl trivial (fun hHeld => ?_)
        refine with_tabW r19.tab19 r19.bits19 (fun HT_ HW_ => ?_)
        refine inv_at [0, 1, 2, 3, 4, 5, 6, 7, 8, 9, 10, 11, 12] (fun a0_ b a w' => ∃ (at2 : Nat) (g9 : Nat) (m6_ : Value) (m7_ : Value) (m8_ : Value) (m10_ : Value), a = putSel a0_ b [(0, 71, .agg #[.slice A l.length c, .int .i64 (at_ : Int), .int .i64 er]), (1, 72, .slice (some ad) ops.length d), (2, 73, .int .i64 (i : Int)), (3, 74, .pointer (some (ad.add (i * 2)))), (4, 75, .pointer (some (ad.add (i * 2)))), (5, 76, .int .i64 n), (6, 77, m6_), (7, 70, m7_), (8, 78, m8_), (9, 79, .int .u64 x), (10, 12, m10_), (12, 13, .int .u64 x)] ∧ (Below w.heap.size w w') ∧ (KeepX w3 w' g6) ∧ (w'.heap[g6]? = some (.cells #[.slice A l.length c, .int .i64 (at_ : Int), .int .i64 er] 43 (0, 0))) ∧ (b 6 = true → at2 ≤ l.length ∧ l.drop at2 = L) ∧ (b 10 = true → b 11 = false → w'.heap[g9]? = some (.cells #[.slice none 0 0, .int .i64 0, .int .i64 0] 43 (0, 0))) ∧ (b 10 = true → w3.heap.size ≤ g9 ∧ w.heap.size ≤ g9 ∧ g6 ≠ g9) ∧ (b 11 = true → w'.heap[g9]? = some (.cells #[.slice A l.length c, .int .i64 (at2 : Int), .int .i64 E] 43 (0, 0))) ∧ (b 6 = true → (m6_ : Value) = .tuple #[.agg #[.slice A l.length c, .int .i64 (at2 : Int), .int .i64 E], .int .u64 x]) ∧ (b 7 = true → (m7_ : Value) = .tuple #[.agg #[.slice A l.length c, .int .i64 (at2 : Int), .int .i64 E], .int .u64 x]) ∧ (b 8 = true → (m8_ : Value) = .agg #[.slice A l.length c, .int .i64 (at2 : Int), .int .i64 E]) ∧ (b 10 = true → (m10_ : Value) = .pointer (some ⟨g9, 0, none⟩))) HT_.out HW_.out (by kernel_rfl) (by kernel_rfl) ?_ ?_ ?_
        · exact ⟨0, 0, .bool false, .bool false, .bool false, .bool false, by simp only [putSel, Bool.false_eq_true, if_false], HB.out, HK.out, B6.out, fun h_ => absurd h_ (by decide), fun h_ => absurd h_ (by decide), fun h_ => absurd h_ (by decide), fun h_ => absurd h_ (by decide), fun h_ => absurd h_ (by decide), fun h_ => absurd h_ (by decide), fun h_ => absurd h_ (by decide), fun h_ => absurd h_ (by decide)⟩
        · skip
          clear B6 HB HK
          refine steps_cons ?_ ?_
          · rintro b a w' ⟨at2, g9, m6_, m7_, m8_, m10_, ha, Q_HB, Q_HK, Q_B6, Q_HAT, Q_B9, Q_G9, Q_B9b, Q_X6_, Q_X7_, Q_X8_, Q_X10_⟩ hb_ hon hoff
            refine ⟨_, rfl, fun K hK => ?_⟩
            have e6 : a.tmps[6]? = some (.pointer (some ⟨g6, 0, none⟩)) := by rw [ha]; exact (putSel_off rfl).trans rfl
            replace ha := Aside0.mk ha
            have HB := Aside0.mk Q_HB
            have HK := Aside0.mk Q_HK
            have B6 := Aside0.mk Q_B6
            have hq0_ : w'.cell? ⟨g6, 0, none⟩ = some (.slice A l.length c) := (blk_cell B6.out 0).trans rfl
            have hq1_ : w'.cell? ⟨g6, 1, none⟩ = some (.int .i64 (at_ : Int)) := (blk_cell B6.out 1).trans rfl
            have hq2_ : w'.cell? ⟨g6, 2, none⟩ = some (.int .i64 er) := (blk_cell B6.out 2).trans rfl
            refine value_ (w1 := w') (v := .agg #[.slice A l.length c, .int .i64 (at_ : Int), .int .i64 er]) (by rfl) rfl ?_ ?_
            · go_simp
              (try simp only [i64_w])
              try rfl
              all_goals (try (unfold wrap64; omega))
            refine hK.out _ _ ⟨at2, g9, m6_, m7_, m8_, m10_, (by rw [ha.out]; exact putSel_upk 0 hb_ rfl rfl rfl), Q_HB, Q_HK, Q_B6, fun h0_ => absurd ((hoff 6 (by kernel_rfl)).symm.trans h0_) (by decide), Q_B9, Q_G9, fun h0_ => absurd ((hoff 11 (by kernel_rfl)).symm.trans h0_) (by decide), fun h0_ => absurd ((hoff 6 (by kernel_rfl)).symm.trans h0_) (by decide), fun h0_ => absurd ((hoff 7 (by kernel_rfl)).symm.trans h0_) (by decide), fun h0_ => absurd ((hoff 8 (by kernel_rfl)).symm.trans h0_) (by decide), Q_X10_⟩
          refine steps_cons ?_ ?_
          · rintro b a w' ⟨at2, g9, m6_, m7_, m8_, m10_, ha, Q_HB, Q_HK, Q_B6, Q_HAT, Q_B9, Q_G9, Q_B9b, Q_X6_, Q_X7_, Q_X8_, Q_X10_⟩ hb_ hon hoff
            refine ⟨_, rfl, fun K hK => ?_⟩
            have e1 : a.tmps[1]? = some (.slice (some ad) ops.length d) := by rw [ha]; exact (putSel_off rfl).trans rfl
            replace ha := Aside0.mk ha
            have HB := Aside0.mk Q_HB
            have HK := Aside0.mk Q_HK
            have B6 := Aside0.mk Q_B6
            refine value_ (w1 := w') (v := .slice (some ad) ops.length d) (by rfl) rfl ?_ ?_
            · go_simp
              (try simp only [i64_w])
              try rfl
              all_goals (try (unfold wrap64; omega))
            refine hK.out _ _ ⟨at2, g9, m6_, m7_, m8_, m10_, (by rw [ha.out]; exact putSel_upk 1 hb_ rfl rfl rfl), Q_HB, Q_HK, Q_B6, fun h0_ => absurd ((hoff 6 (by kernel_rfl)).symm.trans h0_) (by decide), Q_B9, Q_G9, fun h0_ => absurd ((hoff 11 (by kernel_rfl)).symm.trans h0_) (by decide), fun h0_ => absurd ((hoff 6 (by kernel_rfl)).symm.trans h0_) (by decide), fun h0_ => absurd ((hoff 7 (by kernel_rfl)).symm.trans h0_) (by decide), fun h0_ => absurd ((hoff 8 (by kernel_rfl)).symm.trans h0_) (by decide), Q_X10_⟩
          refine steps_cons ?_ ?_
          · rintro b a w' ⟨at2, g9, m6_, m7_, m8_, m10_, ha, Q_HB, Q_HK, Q_B6, Q_HAT, Q_B9, Q_G9, Q_B9b, Q_X6_, Q_X7_, Q_X8_, Q_X10_⟩ hb_ hon hoff
            refine ⟨_, rfl, fun K hK => ?_⟩
            have e7 : a.tmps[7]? = some (.int .i64 (i : Int)) := by rw [ha]; exact (putSel_off rfl).trans rfl
            replace ha := Aside0.mk ha
            have HB := Aside0.mk Q_HB
            have HK := Aside0.mk Q_HK
            have B6 := Aside0.mk Q_B6
            refine value_ (w1 := w') (v := .int .i64 (i : Int)) (by rfl) rfl ?_ ?_
            · go_simp
              (try simp only [i64_w])
              try rfl
              all_goals (try (unfold wrap64; omega))
            refine hK.out _ _ ⟨at2, g9, m6_, m7_, m8_, m10_, (by rw [ha.out]; exact putSel_upk 2 hb_ rfl rfl rfl), Q_HB, Q_HK, Q_B6, fun h0_ => absurd ((hoff 6 (by kernel_rfl)).symm.trans h0_) (by decide), Q_B9, Q_G9, fun h0_ => absurd ((hoff 11 (by kernel_rfl)).symm.trans h0_) (by decide), fun h0_ => absurd ((hoff 6 (by kernel_rfl)).symm.trans h0_) (by decide), fun h0_ => absurd ((hoff 7 (by kernel_rfl)).symm.trans h0_) (by decide), fun h0_ => absurd ((hoff 8 (by kernel_rfl)).symm.trans h0_) (by decide), Q_X10_⟩
          refine steps_cons ?_ ?_
          · rintro b a w' ⟨at2, g9, m6_, m7_, m8_, m10_, ha, Q_HB, Q_HK, Q_B6, Q_HAT, Q_B9, Q_G9, Q_B9b, Q_X6_, Q_X7_, Q_X8_, Q_X10_⟩ hb_ hon hoff
            refine ⟨_, rfl, fun K hK => ?_⟩
            have e72 : a.tmps[72]? = some (.slice (some ad) ops.length d) := by rw [ha]; exact putSel_on (e := (1, 72, .slice (some ad) ops.length d)) 1 rfl rfl (hon 1 (by kernel_rfl)) rfl
            have e73 : a.tmps[73]? = some (.int .i64 (i : Int)) := by rw [ha]; exact putSel_on (e := (2, 73, .int .i64 (i : Int))) 2 rfl rfl (hon 2 (by kernel_rfl)) rfl
            replace ha := Aside0.mk ha
            have HB := Aside0.mk Q_HB
            have HK := Aside0.mk Q_HK
            have B6 := Aside0.mk Q_B6
            refine value_ (w1 := w') (v := .pointer (some (ad.add (i * 2)))) (by rfl) rfl ?_ ?_
            · go_simp
              (try simp only [i64_w])
              try rfl
              all_goals (try (unfold wrap64; omega))
            refine hK.out _ _ ⟨at2, g9, m6_, m7_, m8_, m10_, (by rw [ha.out]; exact putSel_upk 3 hb_ rfl rfl rfl), Q_HB, Q_HK, Q_B6, fun h0_ => absurd ((hoff 6 (by kernel_rfl)).symm.trans h0_) (by decide), Q_B9, Q_G9, fun h0_ => absurd ((hoff 11 (by kernel_rfl)).symm.trans h0_) (by decide), fun h0_ => absurd ((hoff 6 (by kernel_rfl)).symm.trans h0_) (by decide), fun h0_ => absurd ((hoff 7 (by kernel_rfl)).symm.trans h0_) (by decide), fun h0_ => absurd ((hoff 8 (by kernel_rfl)).symm.trans h0_) (by decide), Q_X10_⟩
          refine steps_cons ?_ ?_
          · rintro b a w' ⟨at2, g9, m6_, m7_, m8_, m10_, ha, Q_HB, Q_HK, Q_B6, Q_HAT, Q_B9, Q_G9, Q_B9b, Q_X6_, Q_X7_, Q_X8_, Q_X10_⟩ hb_ hon hoff
            refine ⟨_, rfl, fun K hK => ?_⟩
            have e74 : a.tmps[74]? = some (.pointer (some (ad.add (i * 2)))) := by rw [ha]; exact putSel_on (e := (3, 74, .pointer (some (ad.add (i * 2))))) 3 rfl rfl (hon 3 (by kernel_rfl)) rfl
            replace ha := Aside0.mk ha
            have HB := Aside0.mk Q_HB
            have HK := Aside0.mk Q_HK
            have B6 := Aside0.mk Q_B6
            refine value_ (w1 := w') (v := .pointer (some (ad.add (i * 2)))) (by rfl) rfl ?_ ?_
            · go_simp
              (try simp only [i64_w])
              try rfl
              all_goals (try (unfold wrap64; omega))
            refine hK.out _ _ ⟨at2, g9, m6_, m7_, m8_, m10_, (by rw [ha.out]; exact putSel_upk 4 hb_ rfl rfl rfl), Q_HB, Q_HK, Q_B6, fun h0_ => absurd ((hoff 6 (by kernel_rfl)).symm.trans h0_) (by decide), Q_B9, Q_G9, fun h0_ => absurd ((hoff 11 (by kernel_rfl)).symm.trans h0_) (by decide), fun h0_ => absurd ((hoff 6 (by kernel_rfl)).symm.trans h0_) (by decide), fun h0_ => absurd ((hoff 7 (by kernel_rfl)).symm.trans h0_) (by decide), fun h0_ => absurd ((hoff 8 (by kernel_rfl)).symm.trans h0_) (by decide), Q_X10_⟩
          refine steps_cons ?_ ?_
          · rintro b a w' ⟨at2, g9, m6_, m7_, m8_, m10_, ha, Q_HB, Q_HK, Q_B6, Q_HAT, Q_B9, Q_G9, Q_B9b, Q_X6_, Q_X7_, Q_X8_, Q_X10_⟩ hb_ hon hoff
            refine ⟨_, rfl, fun K hK => ?_⟩
            have e75 : a.tmps[75]? = some (.pointer (some (ad.add (i * 2)))) := by rw [ha]; exact putSel_on (e := (4, 75, .pointer (some (ad.add (i * 2))))) 4 rfl rfl (hon 4 (by kernel_rfl)) rfl
            replace ha := Aside0.mk ha
            have HB := Aside0.mk Q_HB
            have HK := Aside0.mk Q_HK
            have B6 := Aside0.mk Q_B6
            have hc_ := HOP.out w' HB.out
            refine value_ (w1 := w') (v := .int .i64 n) (by rfl) rfl ?_ ?_
            · go_simp
              (try simp only [i64_w])
              try rfl
              all_goals (try (unfold wrap64; omega))
            refine hK.out _ _ ⟨at2, g9, m6_, m7_, m8_, m10_, (by rw [ha.out]; exact putSel_upk 5 hb_ rfl rfl rfl), Q_HB, Q_HK, Q_B6, fun h0_ => absurd ((hoff 6 (by kernel_rfl)).symm.trans h0_) (by decide), Q_B9, Q_G9, fun h0_ => absurd ((hoff 11 (by kernel_rfl)).symm.trans h0_) (by decide), fun h0_ => absurd ((hoff 6 (by kernel_rfl)).symm.trans h0_) (by decide), fun h0_ => absurd ((hoff 7 (by kernel_rfl)).symm.trans h0_) (by decide), fun h0_ => absurd ((hoff 8 (by kernel_rfl)).symm.trans h0_) (by decide), Q_X10_⟩
          refine steps_cons ?_ ?_
          · rintro b a w' ⟨at2, g9, m6_, m7_, m8_, m10_, ha, Q_HB, Q_HK, Q_B6, Q_HAT, Q_B9, Q_G9, Q_B9b, Q_X6_, Q_X7_, Q_X8_, Q_X10_⟩ hb_ hon hoff
            refine ⟨_, rfl, fun K hK => ?_⟩
            have e71 : a.tmps[71]? = some (.agg #[.slice A l.length c, .int .i64 (at_ : Int), .int .i64 er]) := by rw [ha]; exact putSel_on (e := (0, 71, .agg #[.slice A l.length c, .int .i64 (at_ : Int), .int .i64 er])) 0 rfl rfl (hon 0 (by kernel_rfl)) rfl
            have e76 : a.tmps[76]? = some (.int .i64 n) := by rw [ha]; exact putSel_on (e := (5, 76, .int .i64 n)) 5 rfl rfl (hon 5 (by kernel_rfl)) rfl
            replace ha := Aside0.mk ha
            have HB := Aside0.mk Q_HB
            have HK := Aside0.mk Q_HK
            have B6 := Aside0.mk Q_B6
            refine goes_ Try.func20 (by kernel_rfl) rfl #[.agg #[.slice A l.length c, .int .i64 (at_ : Int), .int .i64 er], .int .i64 n] (by rfl) rfl rfl (by first | (simp only [List.map_toArray, List.map_cons, List.map_nil, Act.eval, Array.getD_eq_getD_getElem?, Option.getD_some, e71, e76]; done) | (simp only [List.map_toArray, List.map_cons, List.map_nil, Act.eval, Array.getD_eq_getD_getElem?, Option.getD_some, e71, e76]; rfl)) ?_
            refine (HRC.out w' (Kd.C_below HA.out HB.out)).mono ?_
            rintro e w2_ ⟨at2_, rfl, hle_, hdr_, _, hb⟩
            refine ⟨_, rfl, ?_⟩
            refine hK.out _ _ ⟨at2_, g9, (.tuple #[.agg #[.slice A l.length c, .int .i64 (at2_ : Int), .int .i64 E], .int .u64 x]), m7_, m8_, m10_, (by rw [ha.out]; exact putSel_upk 6 hb_ rfl rfl rfl), below_then HB.out HB.out.size hb, HK.out.below hb, blk_below B6.out hb, fun _ => ⟨hle_, hdr_⟩, fun h0_ h1_ => blk_below (Q_B9 h0_ h1_) hb, Q_G9, fun h0_ => absurd ((hoff 11 (by kernel_rfl)).symm.trans h0_) (by decide), fun _ => rfl, fun h0_ => absurd ((hoff 7 (by kernel_rfl)).symm.trans h0_) (by decide), fun h0_ => absurd ((hoff 8 (by kernel_rfl)).symm.trans h0_) (by decide), Q_X10_⟩
          refine steps_cons ?_ ?_
          · rintro b a w' ⟨at2, g9, m6_, m7_, m8_, m10_, ha, Q_HB, Q_HK, Q_B6, Q_HAT, Q_B9, Q_G9, Q_B9b, Q_X6_, Q_X7_, Q_X8_, Q_X10_⟩ hb_ hon hoff
            refine ⟨_, rfl, fun K hK => ?_⟩
            have e77 : a.tmps[77]? = some (m6_) := by rw [ha]; exact putSel_on (e := (6, 77, m6_)) 6 rfl rfl (hon 6 (by kernel_rfl)) rfl
            rw [Q_X6_ (hon 6 (by kernel_rfl))] at e77
            replace ha := Aside0.mk ha
            have HB := Aside0.mk Q_HB
            have HK := Aside0.mk Q_HK
            have B6 := Aside0.mk Q_B6
            have HAT := Aside0.mk (Q_HAT (hon 6 (by kernel_rfl)))
            refine value_ (w1 := w') (v := .tuple #[.agg #[.slice A l.length c, .int .i64 (at2 : Int), .int .i64 E], .int .u64 x]) (by rfl) rfl ?_ ?_
            · go_simp
              (try simp only [i64_w])
              try rfl
              all_goals (try (unfold wrap64; omega))
            refine hK.out _ _ ⟨at2, g9, m6_, (.tuple #[.agg #[.slice A l.length c, .int .i64 (at2 : Int), .int .i64 E], .int .u64 x]), m8_, m10_, (by rw [ha.out]; exact putSel_upk 7 hb_ rfl rfl rfl), Q_HB, Q_HK, Q_B6, Q_HAT, Q_B9, Q_G9, fun h0_ => absurd ((hoff 11 (by kernel_rfl)).symm.trans h0_) (by decide), Q_X6_, fun _ => rfl, fun h0_ => absurd ((hoff 8 (by kernel_rfl)).symm.trans h0_) (by decide), Q_X10_⟩
          refine steps_cons ?_ ?_
          · rintro b a w' ⟨at2, g9, m6_, m7_, m8_, m10_, ha, Q_HB, Q_HK, Q_B6, Q_HAT, Q_B9, Q_G9, Q_B9b, Q_X6_, Q_X7_, Q_X8_, Q_X10_⟩ hb_ hon hoff
            refine ⟨_, rfl, fun K hK => ?_⟩
            have e70 : a.tmps[70]? = some (m7_) := by rw [ha]; exact putSel_on (e := (7, 70, m7_)) 7 rfl rfl (hon 7 (by kernel_rfl)) rfl
            rw [Q_X7_ (hon 7 (by kernel_rfl))] at e70
            replace ha := Aside0.mk ha
            have HB := Aside0.mk Q_HB
            have HK := Aside0.mk Q_HK
            have B6 := Aside0.mk Q_B6
            have HAT := Aside0.mk (Q_HAT (hon 6 (by kernel_rfl)))
            refine value_ (w1 := w') (v := .agg #[.slice A l.length c, .int .i64 (at2 : Int), .int .i64 E]) (by rfl) rfl ?_ ?_
            · go_simp
              (try simp only [i64_w])
              try rfl
              all_goals (try (unfold wrap64; omega))
            refine hK.out _ _ ⟨at2, g9, m6_, m7_, (.agg #[.slice A l.length c, .int .i64 (at2 : Int), .int .i64 E]), m10_, (by rw [ha.out]; exact putSel_upk 8 hb_ rfl rfl rfl), Q_HB, Q_HK, Q_B6, Q_HAT, Q_B9, Q_G9, fun h0_ => absurd ((hoff 11 (by kernel_rfl)).symm.trans h0_) (by decide), Q_X6_, Q_X7_, fun _ => rfl, Q_X10_⟩
          refine steps_cons ?_ ?_
          · rintro b a w' ⟨at2, g9, m6_, m7_, m8_, m10_, ha, Q_HB, Q_HK, Q_B6, Q_HAT, Q_B9, Q_G9, Q_B9b, Q_X6_, Q_X7_, Q_X8_, Q_X10_⟩ hb_ hon hoff
            refine ⟨_, rfl, fun K hK => ?_⟩
            have e70 : a.tmps[70]? = some (m7_) := by rw [ha]; exact putSel_on (e := (7, 70, m7_)) 7 rfl rfl (hon 7 (by kernel_rfl)) rfl
            rw [Q_X7_ (hon 7 (by kernel_rfl))] at e70
            replace ha := Aside0.mk ha
            have HB := Aside0.mk Q_HB
            have HK := Aside0.mk Q_HK
            have B6 := Aside0.mk Q_B6
            have HAT := Aside0.mk (Q_HAT (hon 6 (by kernel_rfl)))
            refine value_ (w1 := w') (v := .int .u64 x) (by rfl) rfl ?_ ?_
            · go_simp
              (try simp only [i64_w])
              try rfl
              all_goals (try (unfold wrap64; omega))
            refine hK.out _ _ ⟨at2, g9, m6_, m7_, m8_, m10_, (by rw [ha.out]; exact putSel_upk 9 hb_ rfl rfl rfl), Q_HB, Q_HK, Q_B6, Q_HAT, Q_B9, Q_G9, Q_B9b, Q_X6_, Q_X7_, Q_X8_, Q_X10_⟩
          refine steps_cons ?_ ?_
          · rintro b a w' ⟨at2, g9, m6_, m7_, m8_, m10_, ha, Q_HB, Q_HK, Q_B6, Q_HAT, Q_B9, Q_G9, Q_B9b, Q_X6_, Q_X7_, Q_X8_, Q_X10_⟩ hb_ hon hoff
            refine ⟨_, rfl, fun K hK => ?_⟩
            replace ha := Aside0.mk ha
            have HB := Aside0.mk Q_HB
            have HK := Aside0.mk Q_HK
            have B6 := Aside0.mk Q_B6
            refine value_ (w1 := w'.alloc (.cells #[.slice none 0 0, .int .i64 0, .int .i64 0] 43)) (v := .pointer (some ⟨w'.heap.size, 0, none⟩)) (by rfl) rfl ?_ ?_
            · go_simp
              try rfl
              all_goals (try (unfold wrap64; omega))
            have hb : Below w'.heap.size w' (w'.alloc (.cells #[.slice none 0 0, .int .i64 0, .int .i64 0] 43)) := below_alloc (Below.refl _ _) _
            have hn69 : g6 ≠ w'.heap.size := by have := blk_lt B6.out; omega
            refine hK.out _ _ ⟨at2, w'.heap.size, m6_, m7_, m8_, (.pointer (some ⟨w'.heap.size, 0, none⟩)), (by rw [ha.out]; exact putSel_upk 10 hb_ rfl rfl rfl), below_then HB.out HB.out.size hb, HK.out.below hb, blk_below B6.out hb, Q_HAT, fun _ _ => blk_new _ _, fun _ => ⟨HK.out.1, HB.out.size, hn69⟩, fun h0_ => absurd ((hoff 11 (by kernel_rfl)).symm.trans h0_) (by decide), Q_X6_, Q_X7_, Q_X8_, fun _ => rfl⟩
          refine steps_cons ?_ ?_
          · rintro b a w' ⟨at2, g9, m6_, m7_, m8_, m10_, ha, Q_HB, Q_HK, Q_B6, Q_HAT, Q_B9, Q_G9, Q_B9b, Q_X6_, Q_X7_, Q_X8_, Q_X10_⟩ hb_ hon hoff
            refine ⟨_, rfl, fun K hK => ?_⟩
            have e12 : a.tmps[12]? = some (m10_) := by rw [ha]; exact putSel_on (e := (10, 12, m10_)) 10 rfl rfl (hon 10 (by kernel_rfl)) rfl
            rw [Q_X10_ (hon 10 (by kernel_rfl))] at e12
            have e78 : a.tmps[78]? = some (m8_) := by rw [ha]; exact putSel_on (e := (8, 78, m8_)) 8 rfl rfl (hon 8 (by kernel_rfl)) rfl
            rw [Q_X8_ (hon 8 (by kernel_rfl))] at e78
            replace ha := Aside0.mk ha
            have HB := Aside0.mk Q_HB
            have HK := Aside0.mk Q_HK
            have B6 := Aside0.mk Q_B6
            have HAT := Aside0.mk (Q_HAT (hon 6 (by kernel_rfl)))
            have B9 := Aside0.mk (Q_B9 (hon 10 (by kernel_rfl)) hb_)
            have G9 := Aside0.mk (Q_G9 (hon 10 (by kernel_rfl)))
            have kq0_ : w'.cell? ⟨g9, 0, none⟩ = some (.slice none 0 0) := (blk_cell B9.out 0).trans rfl
            have kq1_ : w'.cell? ⟨g9, 1, none⟩ = some (.int .i64 0) := (blk_cell B9.out 1).trans rfl
            have kq2_ : w'.cell? ⟨g9, 2, none⟩ = some (.int .i64 0) := (blk_cell B9.out 2).trans rfl
            have kf0_ := blk_frozen B9.out 0
            have kf1_ := blk_frozen B9.out 1
            have kf2_ := blk_frozen B9.out 2
            refine skip_ (w1 := ((w'.setCell ⟨g9, 0, none⟩ (.slice A l.length c)).setCell ⟨g9, 1, none⟩ (.int .i64 (at2 : Int))).setCell ⟨g9, 2, none⟩ (.int .i64 E)) (by rfl) rfl ?_ ?_
            · go_simp
              try rfl
              all_goals (try (unfold wrap64; omega))
            refine hK.out _ _ ⟨at2, g9, m6_, m7_, m8_, m10_, (by rw [ha.out]; exact putSel_none (v := undef) rfl), below_put3 _ _ _ HB.out HB.out.size G9.out.2.1, HK.out.put3 (.inr G9.out.1) _ _ _, blk_far (blk_far (blk_far B6.out G9.out.2.2 _) G9.out.2.2 _) G9.out.2.2 _, Q_HAT, fun _ h1_ => absurd ((up_self b 11).symm.trans h1_) (by decide), Q_G9, fun _ => put3 _ _ _ B9.out, Q_X6_, Q_X7_, Q_X8_, Q_X10_⟩
          refine steps_cons ?_ ?_
          · rintro b a w' ⟨at2, g9, m6_, m7_, m8_, m10_, ha, Q_HB, Q_HK, Q_B6, Q_HAT, Q_B9, Q_G9, Q_B9b, Q_X6_, Q_X7_, Q_X8_, Q_X10_⟩ hb_ hon hoff
            refine ⟨_, rfl, fun K hK => ?_⟩
            have e79 : a.tmps[79]? = some (.int .u64 x) := by rw [ha]; exact putSel_on (e := (9, 79, .int .u64 x)) 9 rfl rfl (hon 9 (by kernel_rfl)) rfl
            replace ha := Aside0.mk ha
            have HB := Aside0.mk Q_HB
            have HK := Aside0.mk Q_HK
            have B6 := Aside0.mk Q_B6
            have HAT := Aside0.mk (Q_HAT (hon 6 (by kernel_rfl)))
            have G9 := Aside0.mk (Q_G9 (hon 10 (by kernel_rfl)))
            have B9b := Aside0.mk (Q_B9b (hon 11 (by kernel_rfl)))
            refine value_ (w1 := w') (v := .int .u64 x) (by rfl) rfl ?_ ?_
            · go_simp
              (try simp only [i64_w])
              try rfl
              all_goals (try (unfold wrap64; omega))
            refine hK.out _ _ ⟨at2, g9, m6_, m7_, m8_, m10_, (by rw [ha.out]; exact putSel_upk 11 hb_ rfl rfl rfl), Q_HB, Q_HK, Q_B6, Q_HAT, fun _ h1_ => absurd ((hon 11 (by kernel_rfl)).symm.trans h1_) (by decide), Q_G9, Q_B9b, Q_X6_, Q_X7_, Q_X8_, Q_X10_⟩
          exact steps_nil
        rintro b a w6 hall ⟨at2, g9, m6_, m7_, m8_, m10_, ha, Q_HB, Q_HK, Q_B6, Q_HAT, Q_B9, Q_G9, Q_B9b, Q_X6_, Q_X7_, Q_X8_, Q_X10_⟩
        clear B6 HB HK
        have hb0_ := hall 0 (by kernel_rfl)
        have hb1_ := hall 1 (by kernel_rfl)
        have hb2_ := hall 2 (by kernel_rfl)
        have hb3_ := hall 3 (by kernel_rfl)
        have hb4_ := hall 4 (by kernel_rfl)
        have hb5_ := hall 5 (by kernel_rfl)
        have hb6_ := hall 6 (by kernel_rfl)
        have hb7_ := hall 7 (by kernel_rfl)
        have hb8_ := hall 8 (by kernel_rfl)
        have hb9_ := hall 9 (by kernel_rfl)
        have hb10_ := hall 10 (by kernel_rfl)
        have hb11_ := hall 11 (by kernel_rfl)
        have hb12_ := hall 12 (by kernel_rfl)
        subst ha
        obtain rfl := Q_X6_ hb6_
        obtain rfl := Q_X7_ hb7_
        obtain rfl := Q_X8_ hb8_
        obtain rfl := Q_X10_ hb10_
        simp only [putSel, hb0_, hb1_, hb2_, hb3_, hb4_, hb5_, hb6_, hb7_, hb8_, hb9_, hb10_, hb11_, hb12_, if_true, Act.put, List.setIfInBounds_toArray, List.set_cons_zero, List.set_cons_succ]
        have HB := Aside0.mk Q_HB
        clear Q_HB
        have HK := Aside0.mk Q_HK
        clear Q_HK
        have B6 := Aside0.mk Q_B6
        clear Q_B6
        have HAT := Aside0.mk (Q_HAT hb6_)
        clear Q_HAT
        clear Q_B9
        have G9 := Aside0.mk (Q_G9 hb10_)
        clear Q_G9
        have B9b := Aside0.mk (Q_B9b hb11_)
        clear Q_B9b
        clear hall hb0_ hb1_ hb2_ hb3_ hb4_ hb5_ hb6_ hb7_ hb8_ hb9_ hb10_ hb11_ hb12_

        obtain ⟨hat2, hdr2⟩ := HAT.out
        have HN69 := Aside0.mk G9.out.2.2
        have HDR := Aside0.mk hdr2
        clear hdr2 HAT
        have mq0_ : w6.cell? ⟨g9, 0, none⟩ = some (.slice A l.length c) := (blk_cell B9b.out 0).trans rfl
        have mq1_ : w6.cell? ⟨g9, 1, none⟩ = some (.int .i64 (at2 : Int)) := (blk_cell B9b.out 1).trans rfl
        have mq2_ : w6.cell? ⟨g9, 2, none⟩ = some (.int .i64 E) := (blk_cell B9b.out 2).trans rfl
        have nq0_ : w6.cell? ⟨g6, 0, none⟩ = some (.slice A l.length c) := (blk_cell B6.out 0).trans rfl
        have nq1_ : w6.cell? ⟨g6, 1, none⟩ = some (.int .i64 (at_ : Int)) := (blk_cell B6.out 1).trans rfl
        have nq2_ : w6.cell? ⟨g6, 2, none⟩ = some (.int .i64 er) := (blk_cell B6.out 2).trans rfl
        have nf0_ := blk_frozen B6.out 0
        have nf1_ := blk_frozen B6.out 1
        have nf2_ := blk_frozen B6.out 2
        go_wp2_with ((with_reducible refine gate_store (t := 43) (p := 6) rfl ?_); refine store_event (t := 43) (p := 6) (v := .tmp 80) (w1 := ((w6.setCell ⟨g6, 0, none⟩ (.slice A l.length c)).setCell ⟨g6, 1, none⟩ (.int .i64 (at2 : Int))).setCell ⟨g6, 2, none⟩ (.int .i64 E)) ?hg ?ho ?hn ?hr ?_; (case ho => rfl); (case hg => rfl); (case hn => rfl); (case hr => first | (go_simp; done) | (go_simp; rfl)); intro w7 hw7; clear mq0_ mq1_ mq2_ nq0_ nq1_ nq2_ nf0_ nf1_ nf2_; have B67 : Aside0 (w7.heap[g6]? = some (.cells #[.slice A l.length c, .int .i64 (at2 : Int), .int .i64 E] 43 (0, 0))) := ⟨(by rw [hw7]; exact put3 _ _ _ B6.out)⟩; have HB7 : Aside0 (Below w.heap.size w w7) := ⟨(by rw [hw7]; exact below_put3 _ _ _ HB.out HB.out.size HG6.out)⟩; have HK7 : Aside0 (KeepX w3 w7 g6) := ⟨(by rw [hw7]; exact HK.out.put3 (.inl rfl) _ _ _)⟩; clear hw7)
        have HR7 := Aside0.mk ((HR3.out.step (fun k hk hlt => HK7.out.2 k hlt hk)).below (below_drew (Below.refl w7.heap.size w7)))
        have HLEFT : Aside0 (∀ W : World, Calls Try.prog 21 #[.agg #[.slice A l.length c, .int .i64 (at2 : Int), .int .i64 E]] W fun e w' => e = .returned (.int .i64 (L.length : Int)) ∧ Below W.heap.size W w') := ⟨fun W => by
          have := rleft (w := W) (B := A) (c := c) hl at2 hat2 E
          rw [HDR.out] at this
          exact this⟩
        clear B6 HB HK
        have B6 := Aside0.mk (blk_below B67.out (below_drew (Below.refl _ _)))
        have HB := Aside0.mk (below_drew HB7.out)
        clear B67 HB7 HK7
        refine start_ (n := 12) (S := fun w' => True) (ds := []) #[false, false, false, false, false, false, false, false, false, false, false, false] (by kernel_rfl) rfl rfl trivial (fun hHeld => ?_)
        refine with_tabW r23b.tab23 r23b.bits23 (fun HT_ HW_ => ?_)
        refine inv_at [0, 1, 2, 3, 4, 5, 6, 7, 8, 9, 10, 11] (fun a0_ b a w' => a = putSel a0_ b [(0, 84, .pointer (some ⟨g, 0, none⟩)), (1, 85, .int .i64 (L.length : Int)), (2, 86, .agg #[.slice A l.length c, .int .i64 (at2 : Int), .int .i64 E]), (3, 87, .int .i64 (L.length : Int)), (4, 88, .bool false), (5, 89, .bool false), (6, 90, .pointer (some ⟨g, 0, none⟩)), (7, 91, .int .i64 E), (8, 92, .pointer (some ⟨g6, 2, none⟩)), (9, 93, .int .i64 E), (10, 94, .bool false), (11, 95, .bool false)] ∧ (Below w.heap.size w w') ∧ (Rdr w' w.heap.size (fun k => k ≠ g6) g L E) ∧ (w'.heap[g6]? = some (.cells #[.slice A l.length c, .int .i64 (at2 : Int), .int .i64 E] 43 (0, 0)))) HT_.out HW_.out (by kernel_rfl) (by kernel_rfl) ?_ ?_ ?_
        · exact ⟨by simp only [putSel, Bool.false_eq_true, if_false], HB.out, HR7.out, B6.out⟩
        · skip
          clear B6 HB HR7
          refine steps_cons ?_ ?_
          · rintro b a w' ⟨ha, Q_HB, Q_HR7, Q_B6⟩ hb_ hon hoff
            refine ⟨_, rfl, fun K hK => ?_⟩
            have e5 : a.tmps[5]? = some (.pointer (some ⟨g, 0, none⟩)) := by rw [ha]; exact (putSel_off rfl).trans rfl
            replace ha := Aside0.mk ha
            have HB := Aside0.mk Q_HB
            have HR7 := Aside0.mk Q_HR7
            have B6 := Aside0.mk Q_B6
            refine value_ (w1 := w') (v := .pointer (some ⟨g, 0, none⟩)) (by rfl) rfl ?_ ?_
            · go_simp
              (try simp only [i64_w])
              try rfl
              all_goals (try (unfold wrap64; omega))
            refine hK.out _ _ ⟨(by rw [ha.out]; exact putSel_upk 0 hb_ rfl rfl rfl), Q_HB, Q_HR7, Q_B6⟩
          refine steps_cons ?_ ?_
          · rintro b a w' ⟨ha, Q_HB, Q_HR7, Q_B6⟩ hb_ hon hoff
            refine ⟨_, rfl, fun K hK => ?_⟩
            have e84 : a.tmps[84]? = some (.pointer (some ⟨g, 0, none⟩)) := by rw [ha]; exact putSel_on (e := (0, 84, .pointer (some ⟨g, 0, none⟩))) 0 rfl rfl (hon 0 (by kernel_rfl)) rfl
            replace ha := Aside0.mk ha
            have HB := Aside0.mk Q_HB
            have HR7 := Aside0.mk Q_HR7
            have B6 := Aside0.mk Q_B6
            refine goes_ Try.func17 (by kernel_rfl) rfl #[.pointer (some ⟨g, 0, none⟩)] (by rfl) rfl rfl (by first | (simp only [List.map_toArray, List.map_cons, List.map_nil, Act.eval, Array.getD_eq_getD_getElem?, Option.getD_some, e84]; done) | (simp only [List.map_toArray, List.map_cons, List.map_nil, Act.eval, Array.getD_eq_getD_getElem?, Option.getD_some, e84]; rfl)) ?_
            refine (left_calls HR7.out).mono ?_
            rintro e w2_ ⟨rfl, rfl⟩
            have hb : Below w'.heap.size w' w' := Below.refl _ _
            refine ⟨_, rfl, ?_⟩
            refine hK.out _ _ ⟨(by rw [ha.out]; exact putSel_upk 1 hb_ rfl rfl rfl), below_then HB.out HB.out.size hb, HR7.out.below hb, blk_below B6.out hb⟩
          refine steps_cons ?_ ?_
          · rintro b a w' ⟨ha, Q_HB, Q_HR7, Q_B6⟩ hb_ hon hoff
            refine ⟨_, rfl, fun K hK => ?_⟩
            have e6 : a.tmps[6]? = some (.pointer (some ⟨g6, 0, none⟩)) := by rw [ha]; exact (putSel_off rfl).trans rfl
            replace ha := Aside0.mk ha
            have HB := Aside0.mk Q_HB
            have HR7 := Aside0.mk Q_HR7
            have B6 := Aside0.mk Q_B6
            have hq0_ : w'.cell? ⟨g6, 0, none⟩ = some (.slice A l.length c) := (blk_cell B6.out 0).trans rfl
            have hq1_ : w'.cell? ⟨g6, 1, none⟩ = some (.int .i64 (at2 : Int)) := (blk_cell B6.out 1).trans rfl
            have hq2_ : w'.cell? ⟨g6, 2, none⟩ = some (.int .i64 E) := (blk_cell B6.out 2).trans rfl
            refine value_ (w1 := w') (v := .agg #[.slice A l.length c, .int .i64 (at2 : Int), .int .i64 E]) (by rfl) rfl ?_ ?_
            · go_simp
              (try simp only [i64_w])
              try rfl
              all_goals (try (unfold wrap64; omega))
            refine hK.out _ _ ⟨(by rw [ha.out]; exact putSel_upk 2 hb_ rfl rfl rfl), Q_HB, Q_HR7, Q_B6⟩
          refine steps_cons ?_ ?_
          · rintro b a w' ⟨ha, Q_HB, Q_HR7, Q_B6⟩ hb_ hon hoff
            refine ⟨_, rfl, fun K hK => ?_⟩
            have e86 : a.tmps[86]? = some (.agg #[.slice A l.length c, .int .i64 (at2 : Int), .int .i64 E]) := by rw [ha]; exact putSel_on (e := (2, 86, .agg #[.slice A l.length c, .int .i64 (at2 : Int), .int .i64 E])) 2 rfl rfl (hon 2 (by kernel_rfl)) rfl
            replace ha := Aside0.mk ha
            have HB := Aside0.mk Q_HB
            have HR7 := Aside0.mk Q_HR7
            have B6 := Aside0.mk Q_B6
            refine goes_ Try.func21 (by kernel_rfl) rfl #[.agg #[.slice A l.length c, .int .i64 (at2 : Int), .int .i64 E]] (by rfl) rfl rfl (by first | (simp only [List.map_toArray, List.map_cons, List.map_nil, Act.eval, Array.getD_eq_getD_getElem?, Option.getD_some, e86]; done) | (simp only [List.map_toArray, List.map_cons, List.map_nil, Act.eval, Array.getD_eq_getD_getElem?, Option.getD_some, e86]; rfl)) ?_
            refine (HLEFT.out w').mono ?_
            rintro e w2_ ⟨rfl, hb⟩
            refine ⟨_, rfl, ?_⟩
            refine hK.out _ _ ⟨(by rw [ha.out]; exact putSel_upk 3 hb_ rfl rfl rfl), below_then HB.out HB.out.size hb, HR7.out.below hb, blk_below B6.out hb⟩
          refine steps_cons ?_ ?_
          · rintro b a w' ⟨ha, Q_HB, Q_HR7, Q_B6⟩ hb_ hon hoff
            refine ⟨_, rfl, fun K hK => ?_⟩
            have e85 : a.tmps[85]? = some (.int .i64 (L.length : Int)) := by rw [ha]; exact putSel_on (e := (1, 85, .int .i64 (L.length : Int))) 1 rfl rfl (hon 1 (by kernel_rfl)) rfl
            have e87 : a.tmps[87]? = some (.int .i64 (L.length : Int)) := by rw [ha]; exact putSel_on (e := (3, 87, .int .i64 (L.length : Int))) 3 rfl rfl (hon 3 (by kernel_rfl)) rfl
            replace ha := Aside0.mk ha
            have HB := Aside0.mk Q_HB
            have HR7 := Aside0.mk Q_HR7
            have B6 := Aside0.mk Q_B6
            refine value_ (w1 := w') (v := .bool false) (by rfl) rfl ?_ ?_
            · go_simp
              (try simp only [i64_w])
              try rfl
              all_goals (try (unfold wrap64; omega))
            refine hK.out _ _ ⟨(by rw [ha.out]; exact putSel_upk 4 hb_ rfl rfl rfl), Q_HB, Q_HR7, Q_B6⟩
          refine steps_cons ?_ ?_
          · rintro b a w' ⟨ha, Q_HB, Q_HR7, Q_B6⟩ hb_ hon hoff
            refine ⟨_, rfl, fun K hK => ?_⟩
            have e88 : a.tmps[88]? = some (.bool false) := by rw [ha]; exact putSel_on (e := (4, 88, .bool false)) 4 rfl rfl (hon 4 (by kernel_rfl)) rfl
            replace ha := Aside0.mk ha
            have HB := Aside0.mk Q_HB
            have HR7 := Aside0.mk Q_HR7
            have B6 := Aside0.mk Q_B6
            refine value_ (w1 := w') (v := .bool false) (by rfl) rfl ?_ ?_
            · go_simp
              (try simp only [i64_w])
              try rfl
              all_goals (try (unfold wrap64; omega))
            refine hK.out _ _ ⟨(by rw [ha.out]; exact putSel_upk 5 hb_ rfl rfl rfl), Q_HB, Q_HR7, Q_B6⟩
          refine steps_cons ?_ ?_
          · rintro b a w' ⟨ha, Q_HB, Q_HR7, Q_B6⟩ hb_ hon hoff
            refine ⟨_, rfl, fun K hK => ?_⟩
            have e5 : a.tmps[5]? = some (.pointer (some ⟨g, 0, none⟩)) := by rw [ha]; exact (putSel_off rfl).trans rfl
            have e89 : a.tmps[89]? = some (.bool false) := by rw [ha]; exact putSel_on (e := (5, 89, .bool false)) 5 rfl rfl (hon 5 (by kernel_rfl)) rfl
            replace ha := Aside0.mk ha
            have HB := Aside0.mk Q_HB
            have HR7 := Aside0.mk Q_HR7
            have B6 := Aside0.mk Q_B6
            refine value_ (w1 := w') (v := .pointer (some ⟨g, 0, none⟩)) (wanted_on rfl rfl rfl (e89.trans (by first | rfl | (simp [*]; done)))) rfl ?_ ?_
            · go_simp
              (try simp only [i64_w])
              try rfl
              all_goals (try (unfold wrap64; omega))
            refine hK.out _ _ ⟨(by rw [ha.out]; exact putSel_upk 6 hb_ rfl rfl rfl), Q_HB, Q_HR7, Q_B6⟩
          refine steps_cons ?_ ?_
          · rintro b a w' ⟨ha, Q_HB, Q_HR7, Q_B6⟩ hb_ hon hoff
            refine ⟨_, rfl, fun K hK => ?_⟩
            have e90 : a.tmps[90]? = some (.pointer (some ⟨g, 0, none⟩)) := by rw [ha]; exact putSel_on (e := (6, 90, .pointer (some ⟨g, 0, none⟩))) 6 rfl rfl (hon 6 (by kernel_rfl)) rfl
            have e89 : a.tmps[89]? = some (.bool false) := by rw [ha]; exact putSel_on (e := (5, 89, .bool false)) 5 rfl rfl (hon 5 (by kernel_rfl)) rfl
            replace ha := Aside0.mk ha
            have HB := Aside0.mk Q_HB
            have HR7 := Aside0.mk Q_HR7
            have B6 := Aside0.mk Q_B6
            refine goes_ Try.func16 (by kernel_rfl) rfl #[.pointer (some ⟨g, 0, none⟩)] (wanted_on rfl rfl rfl (e89.trans (by first | rfl | (simp [*]; done)))) rfl rfl (by first | (simp only [List.map_toArray, List.map_cons, List.map_nil, Act.eval, Array.getD_eq_getD_getElem?, Option.getD_some, e90, e89]; done) | (simp only [List.map_toArray, List.map_cons, List.map_nil, Act.eval, Array.getD_eq_getD_getElem?, Option.getD_some, e90, e89]; rfl)) ?_
            refine (err_calls HR7.out).mono ?_
            rintro e w2_ ⟨rfl, rfl⟩
            have hb : Below w'.heap.size w' w' := Below.refl _ _
            refine ⟨_, rfl, ?_⟩
            refine hK.out _ _ ⟨(by rw [ha.out]; exact putSel_upk 7 hb_ rfl rfl rfl), below_then HB.out HB.out.size hb, HR7.out.below hb, blk_below B6.out hb⟩
          refine steps_cons ?_ ?_
          · rintro b a w' ⟨ha, Q_HB, Q_HR7, Q_B6⟩ hb_ hon hoff
            refine ⟨_, rfl, fun K hK => ?_⟩
            have e6 : a.tmps[6]? = some (.pointer (some ⟨g6, 0, none⟩)) := by rw [ha]; exact (putSel_off rfl).trans rfl
            have e89 : a.tmps[89]? = some (.bool false) := by rw [ha]; exact putSel_on (e := (5, 89, .bool false)) 5 rfl rfl (hon 5 (by kernel_rfl)) rfl
            replace ha := Aside0.mk ha
            have HB := Aside0.mk Q_HB
            have HR7 := Aside0.mk Q_HR7
            have B6 := Aside0.mk Q_B6
            refine value_ (w1 := w') (v := .pointer (some ⟨g6, 2, none⟩)) (wanted_on rfl rfl rfl (e89.trans (by first | rfl | (simp [*]; done)))) rfl ?_ ?_
            · go_simp
              (try simp only [i64_w])
              try rfl
              all_goals (try (unfold wrap64; omega))
            refine hK.out _ _ ⟨(by rw [ha.out]; exact putSel_upk 8 hb_ rfl rfl rfl), Q_HB, Q_HR7, Q_B6⟩
          refine steps_cons ?_ ?_
          · rintro b a w' ⟨ha, Q_HB, Q_HR7, Q_B6⟩ hb_ hon hoff
            refine ⟨_, rfl, fun K hK => ?_⟩
            have e92 : a.tmps[92]? = some (.pointer (some ⟨g6, 2, none⟩)) := by rw [ha]; exact putSel_on (e := (8, 92, .pointer (some ⟨g6, 2, none⟩))) 8 rfl rfl (hon 8 (by kernel_rfl)) rfl
            have e89 : a.tmps[89]? = some (.bool false) := by rw [ha]; exact putSel_on (e := (5, 89, .bool false)) 5 rfl rfl (hon 5 (by kernel_rfl)) rfl
            replace ha := Aside0.mk ha
            have HB := Aside0.mk Q_HB
            have HR7 := Aside0.mk Q_HR7
            have B6 := Aside0.mk Q_B6
            have hq0_ : w'.cell? ⟨g6, 0, none⟩ = some (.slice A l.length c) := (blk_cell B6.out 0).trans rfl
            have hq1_ : w'.cell? ⟨g6, 1, none⟩ = some (.int .i64 (at2 : Int)) := (blk_cell B6.out 1).trans rfl
            have hq2_ : w'.cell? ⟨g6, 2, none⟩ = some (.int .i64 E) := (blk_cell B6.out 2).trans rfl
            refine value_ (w1 := w') (v := .int .i64 E) (wanted_on rfl rfl rfl (e89.trans (by first | rfl | (simp [*]; done)))) rfl ?_ ?_
            · go_simp
              (try simp only [i64_w])
              try rfl
              all_goals (try (unfold wrap64; omega))
            refine hK.out _ _ ⟨(by rw [ha.out]; exact putSel_upk 9 hb_ rfl rfl rfl), Q_HB, Q_HR7, Q_B6⟩
          refine steps_cons ?_ ?_
          · rintro b a w' ⟨ha, Q_HB, Q_HR7, Q_B6⟩ hb_ hon hoff
            refine ⟨_, rfl, fun K hK => ?_⟩
            have e91 : a.tmps[91]? = some (.int .i64 E) := by rw [ha]; exact putSel_on (e := (7, 91, .int .i64 E)) 7 rfl rfl (hon 7 (by kernel_rfl)) rfl
            have e93 : a.tmps[93]? = some (.int .i64 E) := by rw [ha]; exact putSel_on (e := (9, 93, .int .i64 E)) 9 rfl rfl (hon 9 (by kernel_rfl)) rfl
            have e89 : a.tmps[89]? = some (.bool false) := by rw [ha]; exact putSel_on (e := (5, 89, .bool false)) 5 rfl rfl (hon 5 (by kernel_rfl)) rfl
            replace ha := Aside0.mk ha
            have HB := Aside0.mk Q_HB
            have HR7 := Aside0.mk Q_HR7
            have B6 := Aside0.mk Q_B6
            refine value_ (w1 := w') (v := .bool false) (wanted_on rfl rfl rfl (e89.trans (by first | rfl | (simp [*]; done)))) rfl ?_ ?_
            · go_simp
              (try simp only [i64_w])
              try rfl
              all_goals (try (unfold wrap64; omega))
            refine hK.out _ _ ⟨(by rw [ha.out]; exact putSel_upk 10 hb_ rfl rfl rfl), Q_HB, Q_HR7, Q_B6⟩
          refine steps_cons ?_ ?_
          · rintro b a w' ⟨ha, Q_HB, Q_HR7, Q_B6⟩ hb_ hon hoff
            refine ⟨_, rfl, fun K hK => ?_⟩
            have e89 : a.tmps[89]? = some (.bool false) := by rw [ha]; exact putSel_on (e := (5, 89, .bool false)) 5 rfl rfl (hon 5 (by kernel_rfl)) rfl
            have e94 : a.tmps[94]? = some (.bool false) := by rw [ha]; exact putSel_on (e := (10, 94, .bool false)) 10 rfl rfl (hon 10 (by kernel_rfl)) rfl
            replace ha := Aside0.mk ha
            have HB := Aside0.mk Q_HB
            have HR7 := Aside0.mk Q_HR7
            have B6 := Aside0.mk Q_B6
            refine value_ (w1 := w') (v := .bool false) (by rfl) rfl ?_ ?_
            · go_simp
              (try simp only [i64_w])
              try rfl
              all_goals (try (unfold wrap64; omega))
            refine hK.out _ _ ⟨(by rw [ha.out]; exact putSel_upk 11 hb_ rfl rfl rfl), Q_HB, Q_HR7, Q_B6⟩
          exact steps_nil
        rintro b a w9 hall ⟨ha, Q_HB, Q_HR7, Q_B6⟩
        clear B6 HB HR7
        have hb0_ := hall 0 (by kernel_rfl)
        have hb1_ := hall 1 (by kernel_rfl)
        have hb2_ := hall 2 (by kernel_rfl)
        have hb3_ := hall 3 (by kernel_rfl)
        have hb4_ := hall 4 (by kernel_rfl)
        have hb5_ := hall 5 (by kernel_rfl)
        have hb6_ := hall 6 (by kernel_rfl)
        have hb7_ := hall 7 (by kernel_rfl)
        have hb8_ := hall 8 (by kernel_rfl)
        have hb9_ := hall 9 (by kernel_rfl)
        have hb10_ := hall 10 (by kernel_rfl)
        have hb11_ := hall 11 (by kernel_rfl)
        subst ha
        simp only [putSel, hb0_, hb1_, hb2_, hb3_, hb4_, hb5_, hb6_, hb7_, hb8_, hb9_, hb10_, hb11_, if_true, Act.put, List.setIfInBounds_toArray, List.set_cons_zero, List.set_cons_succ]
        have HB := Aside0.mk Q_HB
        clear Q_HB
        have HR7 := Aside0.mk Q_HR7
        clear Q_HR7
        have B6 := Aside0.mk Q_B6
        clear Q_B6
        clear hall hb0_ hb1_ hb2_ hb3_ hb4_ hb5_ hb6_ hb7_ hb8_ hb9_ hb10_ hb11_

        go_wp2_with fail
        go_roundg k
        case rel => exact ⟨i + 1, k, at2, E, rfl, by go_num, by omega, by omega, hat2, ⟨by rw [HDR.out]; exact HR7.out⟩, B6, HB⟩
        case measure => omega
    · by_cases h1 : i < ops.length
      · have h2 : ¬ i < 64 := fun h => hi ⟨h1, h⟩
        clear hi
        go_wp2_with fail
        go_ret
        exact ⟨rfl, HB.out⟩
      · clear hi
        go_wp2_with fail
        go_ret
        exact ⟨rfl, HB.out⟩

theorem reads_big {w : World} {A B : Option Addr} {c d la lb : Nat} (hm : la ≤ maxLen) (hl : ¬ la ≤ 4096) :
    Calls Try.prog 6 #[.slice A la c, .slice B lb d] w fun e w' => e = .returned (.bool true) ∧ Below w.heap.size w w' := by
  unfold maxLen at hm
  go_enter Try.func6, Try.ntmps6
  go_wp2_with fail
  refine (viaductlaw01_alive.calls true _ rfl).mono ?_
  rintro e w1 ⟨rfl, hb⟩
  have HB1 := Aside0.mk hb
  clear hb
  go_wp2
  go_ret
  exact ⟨rfl, HB1.out⟩

theorem reads_walk (A : Option Addr) (c : Nat) (l : List Int) (B : Option Addr) (d : Nat) (ops : List SO) (w : World) (hC : Kd.C (Kd.int .u8) w A l.length l) (hc : l.length ≤ c) (hm : c ≤ maxLen) (hw : ∀ y ∈ l, (Lit.int .u8 y).wf = true) (hy : l.length * 1 ≤ 140737488351232)
    (hC' : Kd.C kO w B ops.length ops) (hc' : ops.length ≤ d) (hm' : d ≤ maxLen) (hw' : ∀ y ∈ ops, (Lit.int .i64 y.f0).wf = true ∧ True) :
    Calls Try.prog 6 #[.slice A l.length c, .slice B ops.length d] w fun e w' => e = .returned (.bool true) ∧ Below w.heap.size w w' := by
  by_cases hl : l.length ≤ 4096
  · exact reads_small hC hc hl (fun x hx => bounds_u8 (hw x hx)) hC' hc' hm' hw'
  · exact reads_big (Nat.le_trans hc hm) hl
end Go.Proofs.Ytkjfemkmooepnaa.Walk
