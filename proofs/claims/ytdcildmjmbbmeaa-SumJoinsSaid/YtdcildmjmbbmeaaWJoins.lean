/- SumJoins answers true. -/
import Derived.Test.YtdcildmjmbbmeaaPureSum
import Derived.Deep.RegionWith
namespace Go.Proofs.Ytdcildmjmbbmeaa.Walk
open Go.RowKit Go.Proofs.YtdcildmjmbbmeaaW.PrintWords Go.Proofs.YtdcildmjmbbmeaaW.PrintLast Go.Proofs.YtdcildmjmbbmeaaW.PrintMore Go.Proofs.Ytdcildmjmbbmeaa.Oct Go.Proofs.Ytdcildmjmbbmeaa.Q Go.Proofs.Ytdcildmjmbbmeaa.Ref Go.Proofs.Ytdcildmjmbbmeaa.Giv
set_option linter.unusedVariables false
set_option linter.unusedSimpArgs false

/-- The law, plain. -/
theorem joins_law {a b : List Int} (ha : okB a) (hb : okB b) (he : a.length % 2 = 0) : ofF (a ++ b) = 65535 - addF (65535 - ofF a) (65535 - ofF b) := by
  have hab : okB (a ++ b) := fun x hx => (List.mem_append.1 hx).elim (ha x) (hb x)
  rw [ofF_vsum _ hab, ofF_vsum _ ha, ofF_vsum _ hb, vsum_append a b he]
  have e1 : (65535 : Int) - (65535 - norm (vsum a)) = norm (vsum a) := by omega
  have e2 : (65535 : Int) - (65535 - norm (vsum b)) = norm (vsum b) := by omega
  rw [e1, e2, addF_mix _ _ (vsum_nonneg a ha) (vsum_nonneg b hb)]

--@TABLES
set_option maxHeartbeats 2000000 in
set_option maxRecDepth 20000 in
theorem joins_small {w : World} {A B : Option Addr} {c d : Nat} {l m : List Int} (hr : Kd.C (Kd.int .u8) w A l.length l) (hc : l.length ≤ c) (hl : l.length ≤ 4096) (hr2 : Kd.C (Kd.int .u8) w B m.length m) (hc2 : m.length ≤ d) (hm : m.length ≤ 4096) (ok1 : okB l) (ok2 : okB m) :
    Calls Try.prog 6 #[.slice A l.length c, .slice B m.length d] w fun e w' => e = .returned (.bool true) ∧ Below w.heap.size w w' := by
  obtain ⟨i5, hi5, _, hs5, _⟩ := info_parts Oct.info5
  obtain ⟨l', hl', hlo, hl2⟩ : ∃ l', l' = l.take (l.length - l.length % 2) ∧ okB l' ∧ l'.length = l.length - l.length % 2 := ⟨_, rfl, fun x hx => ok1 x (List.mem_of_mem_take hx), by rw [List.length_take]; omega⟩
  have hle : l'.length % 2 = 0 := by omega
  have hll : l'.length ≤ l.length := by omega
  have HR := Aside0.mk hr
  have HR2 := Aside0.mk hr2
  have HRL : Aside0 (Kd.C (Kd.int .u8) w A l'.length l') := ⟨by rw [hl']; exact Kd.C_take hr (by omega)⟩
  have HJ := Aside0.mk (joins_law hlo ok2 hle)
  have HO1 := Aside0.mk ok1
  have HO2 := Aside0.mk ok2
  have HOL := Aside0.mk hlo
  have HL0 := Aside0.mk (show l.length % 2 = 0 → l.length = l'.length by omega)
  have HL1 := Aside0.mk (show l.length % 2 = 1 → l.length - 1 = l'.length by omega)
  have HOW := Aside0.mk (show l.length % 2 = 0 ∨ l.length % 2 = 1 by omega)
  have hs1 : 0 < l.length → ∀ W : World, (Instr.slice 22 (.slice A l.length c) none (some (.int .i64 ((l.length : Int) - 1))) none).run Try.prog W = .ok (.slice A (l.length - 1) c) W := fun h0 => by
    have := cut_to (P := Try.prog) 22 5 .i64 Try.underlying22 hi5 A l.length c ((l.length : Int) - 1) (by omega) (by omega) hc
    have e : ((l.length : Int) - 1).toNat = l.length - 1 := by omega
    rw [e] at this
    exact this
  have HS1 := Aside0.mk hs1
  clear hr hr2 ok1 ok2 hlo hl' hs1 hle hi5 hs5 hl2
  rcases HOW.out with he | he
  have hm2 : ((l.length : Int) % 2 == 1) = false := by simp; omega
  have hq := HL0.out he
  have HQ := Aside0.mk hq
  have HRL : Aside0 (Kd.C (Kd.int .u8) w A l.length l') := ⟨by rw [hq]; exact HRL.out⟩
  clear hq he HL1 HS1 HOW
  go_enter Try.func6, Try.ntmps6
  go_wp2_with fail
  refine (viaductlaw02_alive.calls true _ rfl).mono ?_
  rintro e w1 ⟨rfl, hb⟩
  have HB := Aside0.mk hb
  clear hb
  go_wp2_with (first | ((with_reducible refine gate_builtin (b := .append) (xs := #[.const (.slice none 0 0), .tmp 25]) rfl ?_); at_builtin; refine Kd.R_append_rows (Kd.int .u8) (w0 := w) w.heap.size rfl (.const (.slice none 0 0)) (.tmp 25) 22 5 (.int .u8 0) 1 rfl Try.underlying22 Oct.info5 rfl (by decide) (by omega) (.slice none 0 0) ([] : List Int) l' _ _ _ (fun _ => True) (fun _ => False) rfl rfl ?aO ?aR (fun _ _ h => h) (fun _ h => h.elim) ?aF ?aB ?aS ?aL ?_; (case aR => exact Kd.C_below HRL.out HB.out); (case aB => exact HB.out); (case aF => exact (fun _ _ => trivial)); (case aO => exact ((Kd.R_nil _ _ _ _ (fun _ => True)))); (case aS => exact below_size HB.out); (case aL => simp only [List.length_nil]; omega); intro v1 w2 ho hb hg hat; have HO := Aside0.mk ho; have HB2 := Aside0.mk hb; clear ho hb hg hat; rw [List.nil_append] at HO; obtain ⟨A1, c1, e1⟩ := Kd.R_slice HO.out; subst e1) | (at_builtin; refine Kd.R_append_rows (Kd.int .u8) (w0 := w) w.heap.size rfl (.tmp 26) (.tmp 27) 22 5 (.int .u8 0) 1 rfl Try.underlying22 Oct.info5 rfl (by decide) (by omega) (.slice A1 l'.length c1) l' m _ _ _ (fun _ => True) (fun _ => False) rfl rfl ?aO ?aR (fun _ _ h => h) (fun _ h => h.elim) ?aF ?aB ?aS ?aL ?_; (case aR => exact Kd.C_below HR2.out HB2.out); (case aB => exact HB2.out); (case aF => exact (fun _ _ => trivial)); (case aO => exact HO.out); (case aS => exact below_size HB2.out); (case aL => omega); intro v1 w3 ho hb hg hat; have HO3 := Aside0.mk ho; have HB3 := Aside0.mk hb; clear ho hb hg hat; obtain ⟨A3, c3, e3⟩ := Kd.R_slice HO3.out; subst e3))
  rotate_left
  have hm2 : ((l.length : Int) % 2 == 1) = true := by simp; omega
  have hs1 := HS1.out (by omega)
  have hq := HL1.out he
  have HQ := Aside0.mk hq
  have HRL : Aside0 (Kd.C (Kd.int .u8) w A (l.length - 1) l') := ⟨by rw [hq]; exact HRL.out⟩
  clear hq he HL0 HS1 HOW
  go_enter Try.func6, Try.ntmps6
  go_wp2_with fail
  refine (viaductlaw02_alive.calls true _ rfl).mono ?_
  rintro e w1 ⟨rfl, hb⟩
  have HB := Aside0.mk hb
  clear hb
  go_wp2_with (first | ((with_reducible refine gate_builtin (b := .append) (xs := #[.const (.slice none 0 0), .tmp 25]) rfl ?_); at_builtin; refine Kd.R_append_rows (Kd.int .u8) (w0 := w) w.heap.size rfl (.const (.slice none 0 0)) (.tmp 25) 22 5 (.int .u8 0) 1 rfl Try.underlying22 Oct.info5 rfl (by decide) (by omega) (.slice none 0 0) ([] : List Int) l' _ _ _ (fun _ => True) (fun _ => False) rfl rfl ?aO ?aR (fun _ _ h => h) (fun _ h => h.elim) ?aF ?aB ?aS ?aL ?_; (case aR => exact Kd.C_below HRL.out HB.out); (case aB => exact HB.out); (case aF => exact (fun _ _ => trivial)); (case aO => exact ((Kd.R_nil _ _ _ _ (fun _ => True)))); (case aS => exact below_size HB.out); (case aL => simp only [List.length_nil]; omega); intro v1 w2 ho hb hg hat; have HO := Aside0.mk ho; have HB2 := Aside0.mk hb; clear ho hb hg hat; rw [List.nil_append] at HO; obtain ⟨A1, c1, e1⟩ := Kd.R_slice HO.out; subst e1) | (at_builtin; refine Kd.R_append_rows (Kd.int .u8) (w0 := w) w.heap.size rfl (.tmp 26) (.tmp 27) 22 5 (.int .u8 0) 1 rfl Try.underlying22 Oct.info5 rfl (by decide) (by omega) (.slice A1 l'.length c1) l' m _ _ _ (fun _ => True) (fun _ => False) rfl rfl ?aO ?aR (fun _ _ h => h) (fun _ h => h.elim) ?aF ?aB ?aS ?aL ?_; (case aR => exact Kd.C_below HR2.out HB2.out); (case aB => exact HB2.out); (case aF => exact (fun _ _ => trivial)); (case aO => exact HO.out); (case aS => exact below_size HB2.out); (case aL => omega); intro v1 w3 ho hb hg hat; have HO3 := Aside0.mk ho; have HB3 := Aside0.mk hb; clear ho hb hg hat; obtain ⟨A3, c3, e3⟩ := Kd.R_slice HO3.out; subst e3))
  all_goals
    have HOA : Aside0 (okB (l' ++ m)) := ⟨fun x hx => (List.mem_append.1 hx).elim (HOL.out x) (HO2.out x)⟩
    have hr3 := (Kd.R_reads' HO3.out).2.2
    have hc3 := (Kd.R_reads' HO3.out).2.1
    have hlen : (l' ++ m).length ≤ 140737488351232 := by rw [List.length_append]; omega
    have HR3 := Aside0.mk hr3
    have HRL2 := HRL.out
    rw [HQ.out] at HRL2
    have HRM := Aside0.mk HRL2
    clear HRL2 HRL hr3 HO3 HO HB2 HB
    rw [← List.length_append]
    refine (of_any HR3.out hc3 hlen HOA.out).mono ?_
    rintro e w4 ⟨rfl, hb⟩
    have HB4 := Aside0.mk (below_then HB3.out HB3.out.size hb)
    clear hb HB3 HR3
    go_wp2_with fail
    rw [HQ.out]
    refine (of_any (Kd.C_below HRM.out HB4.out) (by omega) (by omega) HOL.out).mono ?_
    rintro e w5 ⟨rfl, hb⟩
    have HB5 := Aside0.mk (below_then HB4.out HB4.out.size hb)
    clear hb HB4
    go_wp2_with fail
    refine (of_any (Kd.C_below HR2.out HB5.out) hc2 (by omega) HO2.out).mono ?_
    rintro e w6 ⟨rfl, hb⟩
    have HB6 := Aside0.mk (below_then HB5.out HB5.out.size hb)
    clear hb HB5
    go_wp2_with fail
    have r1 := ofF_range l' HOL.out
    have r2 := ofF_range m HO2.out
    have x1 : IntKind.u16.wrap (65535 - ofF l') = 65535 - ofF l' := by rw [IntKind.wrap_u16]; omega
    have x2 : IntKind.u16.wrap (65535 - ofF m) = 65535 - ofF m := by rw [IntKind.wrap_u16]; omega
    have r3 := addF_range (a := 65535 - ofF l') (b := 65535 - ofF m) (by omega) (by omega) (by omega) (by omega)
    have x3 : IntKind.u16.wrap (65535 - addF (65535 - ofF l') (65535 - ofF m)) = ofF (l' ++ m) := by rw [HJ.out, IntKind.wrap_u16]; omega
    have HX3 := Aside0.mk x3
    have HR1 := Aside0.mk r1
    have HR4 := Aside0.mk r2
    simp only [x1, x2]
    clear x1 x2 x3 r1 r2 r3
    refine (add_calls (65535 - ofF l') (65535 - ofF m) (by have := HR1.out; omega) (by have := HR1.out; omega) (by have := HR4.out; omega) (by have := HR4.out; omega) _).mono ?_
    rintro e w' ⟨rfl, rfl⟩
    have hx3 := HX3.out
    generalize addF (65535 - ofF l') (65535 - ofF m) = z at *
    clear HR1 HR4 HJ
    generalize ofF (l' ++ m) = y at *
    go_wp2_with fail
    go_ret
    refine ⟨?_, HB6.out⟩
    first | rfl | (rw [hx3]; simp) | simp [hx3]

theorem joins_big {w : World} {A B : Option Addr} {c d la lb : Nat} (hm : la ≤ maxLen) (hm2 : lb ≤ maxLen) (hl : ¬ (la ≤ 4096 ∧ lb ≤ 4096)) :
    Calls Try.prog 6 #[.slice A la c, .slice B lb d] w fun e w' => e = .returned (.bool true) ∧ Below w.heap.size w w' := by
  unfold maxLen at hm hm2
  go_enter Try.func6, Try.ntmps6
  go_wp2_with fail
  refine (viaductlaw02_alive.calls true _ rfl).mono ?_
  rintro e w1 ⟨rfl, hb⟩
  have HB1 := Aside0.mk hb
  clear hb
  by_cases h1 : la ≤ 4096
  · have h2 : ¬ lb ≤ 4096 := fun h => hl ⟨h1, h⟩
    clear hl
    go_wp2
    go_ret
    exact ⟨rfl, HB1.out⟩
  · clear hl
    go_wp2
    go_ret
    exact ⟨rfl, HB1.out⟩

theorem joins_walk (a0 : Option Addr) (len0 cap0 : Nat) (z0 : List Int) (a1 : Option Addr) (len1 cap1 : Nat) (z1 : List Int) (w : World) (w0 : IsRow .u8 w a0 len0 cap0 z0) (y0 : len0 * 1 ≤ 140737488351232) (w1 : IsRow .u8 w a1 len1 cap1 z1) (y1 : len1 * 1 ≤ 140737488351232) :
    Calls Try.prog 6 #[.slice a0 len0 cap0, .slice a1 len1 cap1] w fun e w' => e = .returned (.bool true) ∧ Below w.heap.size w w' := by
  obtain ⟨l, rfl, hr, hm, hw, hc⟩ := ReadsInt.ofRowC w0
  obtain ⟨m, rfl, hr2, hm2, hw2, hc2⟩ := ReadsInt.ofRowC w1
  by_cases hl : l.length ≤ 4096 ∧ m.length ≤ 4096
  · exact joins_small (Kd.C_of_reads (d := (0 : Int)) (h1 := fun _ => rfl) hr) hc hl.1 (Kd.C_of_reads (d := (0 : Int)) (h1 := fun _ => rfl) hr2) hc2 hl.2 (okB_wf hw) (okB_wf hw2)
  · exact joins_big hm hm2 hl

end Go.Proofs.Ytdcildmjmbbmeaa.Walk
