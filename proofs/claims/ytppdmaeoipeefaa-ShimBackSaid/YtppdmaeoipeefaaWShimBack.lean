/- ShimBack answers true. -/
import Derived.Test.YtppdmaeoipeefaaPureShim2
import Derived.Deep.RegionWith
namespace Go.Proofs.Ytppdmaeoipeefaa.Walk
open Go.RowKit Go.Proofs.YtppdmaeoipeefaaW.PrintWords Go.Proofs.YtppdmaeoipeefaaW.PrintLast Go.Proofs.YtppdmaeoipeefaaW.PrintMore Go.Proofs.Ytppdmaeoipeefaa.Oct Go.Proofs.Ytppdmaeoipeefaa.Q Go.Proofs.Ytppdmaeoipeefaa.Ref Go.Proofs.Ytppdmaeoipeefaa.Giv
set_option linter.unusedVariables false
set_option linter.unusedSimpArgs false

theorem str_app (a b : List Int) : strOfNums a ++ strOfNums b = strOfNums (a ++ b) := by
  unfold strOfNums
  apply ByteArray.ext
  simp
theorem str_size (a : List Int) : (strOfNums a).size = a.length := by simp [strOfNums, ByteArray.size]

set_option maxRecDepth 20000 in
set_option maxHeartbeats 4000000 in
theorem back_small {w : World} {A B : Option Addr} {c d : Nat} {l : List S24} {q : List Int} (hr : Kd.C k24 w A l.length l) (hc : l.length ≤ c) (hl : l.length ≤ 4096) (hr2 : Kd.C (Kd.int .u8) w B q.length q) (hc2 : q.length ≤ d) (hl2 : q.length ≤ 4096) (hq : okB q) :
    Calls Try.prog 5 #[.slice A l.length c, .slice B q.length d] w fun e w' => e = .returned (.bool true) ∧ Below w.heap.size w w' := by
  obtain ⟨k0, hk0⟩ := alive03.rounds
  obtain ⟨k1, hk1⟩ := (encode_ev l).rounds
  obtain ⟨k2, hk2⟩ := (same_ev l hl).rounds
  have HR := Aside0.mk hr
  have HR2 := Aside0.mk hr2
  have HQ := Aside0.mk hq
  have HK0 := Aside0.mk hk0
  have HK2 := Aside0.mk hk2
  have hD := decode_f (l := q) (by omega) hq
  obtain ⟨⟨m, r, f⟩, hdec⟩ : ∃ p, decF q = p := ⟨_, rfl⟩
  rw [hdec] at hD
  have HD := Aside0.mk hD
  have HDEC := Aside0.mk hdec
  have hX : ∃ X Y, encF l = (X, Y) ∧ ((Y = 0 ∧ l ≠ [] ∧ decF (X ++ q) = (l, q, 0) ∧ okB X ∧ X.length ≤ 32) ∨ (Y = 0 ∧ l = []) ∨ Y ≠ 0) := by
    rcases encF_cases l with ⟨he, h8, hm⟩ | ⟨f, he, hf⟩
    · refine ⟨_, _, he, ?_⟩
      by_cases h0 : l = []
      · exact .inr (.inl ⟨rfl, h0⟩)
      · exact .inl ⟨rfl, h0, decF_enc q h0 h8 hm, encB_ok l, by rw [encB_length]; omega⟩
    · exact ⟨_, _, he, .inr (.inr hf)⟩
  obtain ⟨X, Y, hXY, hcase⟩ := hX
  rw [hXY] at hk1
  have HK1 := Aside0.mk hk1
  have HCASE := Aside0.mk hcase
  clear hr hr2 hq hk0 hk1 hk2 hXY hcase hD hdec
  go_enter Try.func5, Try.ntmps5
  go_wp2_with fail
  refine (viaductlaw03_alive.calls k0 true _ HK0.out).mono ?_
  rintro e w2 ⟨rfl, hb⟩
  have HB := Aside0.mk hb
  clear hb
  go_wp2_with fail
  refine (shim_Encode.calls k1 A c l X Y _ (Kd.C_below HR.out HB.out) hc HK1.out).mono ?_
  rintro e w3 ⟨v5, rfl, hv, hb⟩
  have HV5 := Aside0.mk hv
  replace HB := Aside0.mk (below_then HB.out HB.out.size hb)
  clear hv hb
  obtain ⟨A5, c5, e5⟩ := Kd.R_slice HV5.out
  subst e5
  rcases HCASE.out with ⟨h1, h2, h3, h4, h5⟩ | ⟨h1, h2⟩ | h1
  · subst h1
    have hlen : 0 < l.length := List.length_pos_iff.2 h2
    have HX5 := Aside0.mk h5
    have HX3 := Aside0.mk h3
    have HX4 := Aside0.mk h4
    clear h2 h3 h4 h5 HCASE
    go_wp2_with (first | ((with_reducible refine gate_builtin (b := .append) (xs := #[.const (.slice none 0 0), .tmp 38]) rfl ?_); at_builtin; refine Kd.R_append_rows (Kd.int .u8) (w0 := w) w.heap.size rfl (.const (.slice none 0 0)) (.tmp 38) 26 5 (.int .u8 0) 1 rfl Try.underlying26 Oct.info5 rfl (by decide) (by omega) (.slice none 0 0) ([] : List Int) X _ _ _ (fun _ => True) (fun _ => False) rfl rfl ?aO ?aR (fun _ _ h => h) (fun _ h => h.elim) ?aF ?aB ?aS ?aL ?_; (case aR => exact (Kd.R_reads' HV5.out).2.2); (case aB => exact HB.out); (case aF => exact (fun _ _ => trivial)); (case aO => exact ((Kd.R_nil _ _ _ _ (fun _ => True)))); (case aS => exact below_size HB.out); (case aL => simp only [List.length_nil]; have := HX5.out; omega); intro v6 w6 ho hb hg hat; have HO := Aside0.mk ho; have HB2 := Aside0.mk hb; clear ho hb hg hat; rw [List.nil_append] at HO; obtain ⟨A6, c6, e6⟩ := Kd.R_slice HO.out; subst e6) | (at_builtin; refine Kd.R_append_rows (Kd.int .u8) (w0 := w) w.heap.size rfl (.tmp 39) (.tmp 40) 26 5 (.int .u8 0) 1 rfl Try.underlying26 Oct.info5 rfl (by decide) (by omega) (.slice A6 X.length c6) X q _ _ _ (fun _ => True) (fun _ => False) rfl rfl ?aO ?aR (fun _ _ h => h) (fun _ h => h.elim) ?aF ?aB ?aS ?aL ?_; (case aR => exact Kd.C_below HR2.out HB2.out); (case aB => exact HB2.out); (case aF => exact (fun _ _ => trivial)); (case aO => exact HO.out); (case aS => exact below_size HB2.out); (case aL => have := HX5.out; omega); intro v7 w7 ho hb hg hat; have HO7 := Aside0.mk ho; clear HB; have HB := Aside0.mk hb; clear ho hb hg hat; obtain ⟨A7, c7, e7⟩ := Kd.R_slice HO7.out; subst e7))
    have hXD : shim_Decode.f (X ++ q) = some (l, q, 0) := by
      rw [decode_f (by have := HX5.out; rw [List.length_append]; omega) (fun x hx => (List.mem_append.1 hx).elim (HX4.out x) (HQ.out x)), HX3.out]
    have HXD := Aside0.mk hXD
    have hr7 := (Kd.R_reads' HO7.out).2.2
    have hc7 := (Kd.R_reads' HO7.out).2.1
    have HR7 := Aside0.mk hr7
    clear hXD hr7 HO7 HO HB2 HV5
    rw [← List.length_append]
    refine (shim_Decode.calls A7 c7 (X ++ q) l q 0 _ HR7.out hc7 HXD.out).mono ?_
    rintro e w8 ⟨v8, v9, rfl, hv, hv2, hb⟩
    obtain ⟨A9, c9, e9⟩ := Kd.V_slice hv2
    subst e9
    obtain ⟨A8, c8, e8⟩ := Kd.R_slice hv
    subst e8
    have HC9 := Aside0.mk (Kd.V_reads' hv2).2.2
    have HC8 := Aside0.mk (Kd.R_reads' hv).2.2
    have hc8 := (Kd.R_reads' hv).2.1
    replace HB := Aside0.mk (below_then HB.out HB.out.size hb)
    clear hv hv2 hb HR7
    go_wp2_with fail
    refine (viaductref03_Same.calls k2 A8 c8 l A c l true _ HC8.out hc8 (Kd.C_below HR.out HB.out) hc HK2.out).mono ?_
    rintro e w9 ⟨rfl, ⟨nd, rfl⟩⟩
    have hb : Below w8.heap.size w8 (w8.drewN nd) := pw_below_drewN (Below.refl _ _) nd
    replace HB := Aside0.mk (below_then HB.out HB.out.size hb)
    have hcv1 := conv (c := c9) (Kd.C_below HC9.out hb)
    have hcv2 := conv (c := d) (Kd.C_below HR2.out HB.out)
    clear hb HC8 HC9
    go_wp2_with fail
    clear hcv1 hcv2
    refine (shim_Decode.calls B d q m r f _ (Kd.C_below HR2.out HB.out) hc2 HD.out).mono ?_
    rintro e w20 ⟨v10, v11, rfl, hv, hv2, hb⟩
    obtain ⟨A11, c11, e11⟩ := Kd.V_slice hv2
    subst e11
    obtain ⟨A10, c10, e10⟩ := Kd.R_slice hv
    subst e10
    have HC11 := Aside0.mk (Kd.V_reads' hv2).2.2
    have HC10 := Aside0.mk (Kd.R_reads' hv).2.2
    have hc10 := (Kd.R_reads' hv).2.1
    replace HB := Aside0.mk (below_then HB.out HB.out.size hb)
    clear hv hv2 hb
    by_cases hf : f = 0
    · subst hf
      obtain ⟨hm0, hm8, hmm, hback⟩ := decF_back HQ.out HDEC.out
      have hE : encF m = (encB m, 0) := by
        unfold encF
        rw [if_neg (by omega), encGo_ok m [] hmm, List.nil_append]
      obtain ⟨k3, hk3⟩ := (encode_ev m).rounds
      rw [hE] at hk3
      have HK3 := Aside0.mk hk3
      have HBK := Aside0.mk hback
      have hm1 : 1 ≤ m.length := List.length_pos_iff.2 hm0
      clear hk3 hE hmm hm0 hback
      go_wp2_with fail
      refine (shim_Encode.calls k3 A10 c10 m (encB m) 0 _ HC10.out hc10 HK3.out).mono ?_
      rintro e w21 ⟨v13, rfl, hv, hb⟩
      obtain ⟨A13, c13, e13⟩ := Kd.R_slice hv
      subst e13
      have HC13 := Aside0.mk (Kd.R_reads' hv).2.2
      replace HC11 := Aside0.mk (Kd.C_below HC11.out hb)
      replace HB := Aside0.mk (below_then HB.out HB.out.size hb)
      clear hv hb
      have hcv1 := conv (c := c13) HC13.out
      have hcv2 := conv (c := c11) HC11.out
      have hcv3 := conv (c := d) (Kd.C_below HR2.out HB.out)
      have hst : strOfNums (encB m) ++ strOfNums r = strOfNums q := by rw [str_app, HBK.out]
      have hsz : ¬ 9223372036854775807 < (strOfNums (encB m)).size + (strOfNums r).size := by
        have a1 := encB_length m
        have a2 : r.length ≤ q.length := by rw [← HBK.out, List.length_append]; omega
        rw [str_size, str_size]
        omega
      go_wp2_with fail
      first | go_ret | (trace_state; go_ret)
      exact ⟨rfl, HB.out⟩
    · have hf' : (f == 0) = false := by simpa using hf
      clear hf
      go_wp2_with fail
      go_ret
      exact ⟨rfl, HB.out⟩
  · subst h1
    subst h2
    clear HCASE
    go_wp2_with fail
    refine (shim_Decode.calls B d q m r f _ (Kd.C_below HR2.out HB.out) hc2 HD.out).mono ?_
    rintro e w20 ⟨v10, v11, rfl, hv, hv2, hb⟩
    obtain ⟨A11, c11, e11⟩ := Kd.V_slice hv2
    subst e11
    obtain ⟨A10, c10, e10⟩ := Kd.R_slice hv
    subst e10
    have HC11 := Aside0.mk (Kd.V_reads' hv2).2.2
    have HC10 := Aside0.mk (Kd.R_reads' hv).2.2
    have hc10 := (Kd.R_reads' hv).2.1
    replace HB := Aside0.mk (below_then HB.out HB.out.size hb)
    clear hv hv2 hb
    by_cases hf : f = 0
    · subst hf
      obtain ⟨hm0, hm8, hmm, hback⟩ := decF_back HQ.out HDEC.out
      have hE : encF m = (encB m, 0) := by
        unfold encF
        rw [if_neg (by omega), encGo_ok m [] hmm, List.nil_append]
      obtain ⟨k3, hk3⟩ := (encode_ev m).rounds
      rw [hE] at hk3
      have HK3 := Aside0.mk hk3
      have HBK := Aside0.mk hback
      have hm1 : 1 ≤ m.length := List.length_pos_iff.2 hm0
      clear hk3 hE hmm hm0 hback
      go_wp2_with fail
      refine (shim_Encode.calls k3 A10 c10 m (encB m) 0 _ HC10.out hc10 HK3.out).mono ?_
      rintro e w21 ⟨v13, rfl, hv, hb⟩
      obtain ⟨A13, c13, e13⟩ := Kd.R_slice hv
      subst e13
      have HC13 := Aside0.mk (Kd.R_reads' hv).2.2
      replace HC11 := Aside0.mk (Kd.C_below HC11.out hb)
      replace HB := Aside0.mk (below_then HB.out HB.out.size hb)
      clear hv hb
      have hcv1 := conv (c := c13) HC13.out
      have hcv2 := conv (c := c11) HC11.out
      have hcv3 := conv (c := d) (Kd.C_below HR2.out HB.out)
      have hst : strOfNums (encB m) ++ strOfNums r = strOfNums q := by rw [str_app, HBK.out]
      have hsz : ¬ 9223372036854775807 < (strOfNums (encB m)).size + (strOfNums r).size := by
        have a1 := encB_length m
        have a2 : r.length ≤ q.length := by rw [← HBK.out, List.length_append]; omega
        rw [str_size, str_size]
        omega
      go_wp2_with fail
      first | go_ret | (trace_state; go_ret)
      exact ⟨rfl, HB.out⟩
    · have hf' : (f == 0) = false := by simpa using hf
      clear hf
      go_wp2_with fail
      go_ret
      exact ⟨rfl, HB.out⟩
  · have hy : (Y == 0) = false := by simpa using h1
    clear h1 HCASE
    go_wp2_with fail
    refine (shim_Decode.calls B d q m r f _ (Kd.C_below HR2.out HB.out) hc2 HD.out).mono ?_
    rintro e w20 ⟨v10, v11, rfl, hv, hv2, hb⟩
    obtain ⟨A11, c11, e11⟩ := Kd.V_slice hv2
    subst e11
    obtain ⟨A10, c10, e10⟩ := Kd.R_slice hv
    subst e10
    have HC11 := Aside0.mk (Kd.V_reads' hv2).2.2
    have HC10 := Aside0.mk (Kd.R_reads' hv).2.2
    have hc10 := (Kd.R_reads' hv).2.1
    replace HB := Aside0.mk (below_then HB.out HB.out.size hb)
    clear hv hv2 hb
    by_cases hf : f = 0
    · subst hf
      obtain ⟨hm0, hm8, hmm, hback⟩ := decF_back HQ.out HDEC.out
      have hE : encF m = (encB m, 0) := by
        unfold encF
        rw [if_neg (by omega), encGo_ok m [] hmm, List.nil_append]
      obtain ⟨k3, hk3⟩ := (encode_ev m).rounds
      rw [hE] at hk3
      have HK3 := Aside0.mk hk3
      have HBK := Aside0.mk hback
      have hm1 : 1 ≤ m.length := List.length_pos_iff.2 hm0
      clear hk3 hE hmm hm0 hback
      go_wp2_with fail
      refine (shim_Encode.calls k3 A10 c10 m (encB m) 0 _ HC10.out hc10 HK3.out).mono ?_
      rintro e w21 ⟨v13, rfl, hv, hb⟩
      obtain ⟨A13, c13, e13⟩ := Kd.R_slice hv
      subst e13
      have HC13 := Aside0.mk (Kd.R_reads' hv).2.2
      replace HC11 := Aside0.mk (Kd.C_below HC11.out hb)
      replace HB := Aside0.mk (below_then HB.out HB.out.size hb)
      clear hv hb
      have hcv1 := conv (c := c13) HC13.out
      have hcv2 := conv (c := c11) HC11.out
      have hcv3 := conv (c := d) (Kd.C_below HR2.out HB.out)
      have hst : strOfNums (encB m) ++ strOfNums r = strOfNums q := by rw [str_app, HBK.out]
      have hsz : ¬ 9223372036854775807 < (strOfNums (encB m)).size + (strOfNums r).size := by
        have a1 := encB_length m
        have a2 : r.length ≤ q.length := by rw [← HBK.out, List.length_append]; omega
        rw [str_size, str_size]
        omega
      go_wp2_with fail
      first | go_ret | (trace_state; go_ret)
      exact ⟨rfl, HB.out⟩
    · have hf' : (f == 0) = false := by simpa using hf
      clear hf
      go_wp2_with fail
      go_ret
      exact ⟨rfl, HB.out⟩

theorem back_big {w : World} {A B : Option Addr} {c d la lb : Nat} (hm : la ≤ maxLen) (hm2 : lb ≤ maxLen) (hl : ¬ (la ≤ 4096 ∧ lb ≤ 4096)) :
    Calls Try.prog 5 #[.slice A la c, .slice B lb d] w fun e w' => e = .returned (.bool true) ∧ Below w.heap.size w w' := by
  unfold maxLen at hm hm2
  obtain ⟨k0, hk0⟩ := alive03.rounds
  have HK0 := Aside0.mk hk0
  clear hk0
  go_enter Try.func5, Try.ntmps5
  go_wp2_with fail
  refine (viaductlaw03_alive.calls k0 true _ HK0.out).mono ?_
  rintro e w1 ⟨rfl, hb⟩
  have HB1 := Aside0.mk hb
  clear hb
  by_cases h1 : la ≤ 4096
  · have h2 : ¬ lb ≤ 4096 := fun h => hl ⟨h1, h⟩
    clear hl
    go_wp2
    go_ret
    exact ⟨rfl, HB1.out⟩
  · clear hl
    go_wp2
    go_ret
    exact ⟨rfl, HB1.out⟩

theorem back_walk (A : Option Addr) (c : Nat) (l : List S24) (B : Option Addr) (d : Nat) (q : List Int) (w : World) (hC : Kd.C k24 w A l.length l) (hc : l.length ≤ c) (hm : c ≤ maxLen) (hw : ∀ y ∈ l, (Lit.int .i64 y.f0).wf = true ∧ (Lit.int .i64 y.f1).wf = true ∧ (Lit.int .i64 y.f2).wf = true)
    (hC' : Kd.C (Kd.int .u8) w B q.length q) (hc' : q.length ≤ d) (hm' : d ≤ maxLen) (hw' : ∀ y ∈ q, (Lit.int .u8 y).wf = true) (hy : q.length * 1 ≤ 140737488351232) :
    Calls Try.prog 5 #[.slice A l.length c, .slice B q.length d] w fun e w' => e = .returned (.bool true) ∧ Below w.heap.size w w' := by
  by_cases hl : l.length ≤ 4096 ∧ q.length ≤ 4096
  · exact back_small hC hc hl.1 hC' hc' hl.2 (fun x hx => bounds_u8 (hw' x hx))
  · exact back_big (Nat.le_trans hc hm) (Nat.le_trans hc' hm') hl
end Go.Proofs.Ytppdmaeoipeefaa.Walk
