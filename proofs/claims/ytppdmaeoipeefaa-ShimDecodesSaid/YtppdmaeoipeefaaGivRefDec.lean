/- The reference's Decode and Number, handed bytes that are not its own. -/
import Derived.Test.YtppdmaeoipeefaaPureShim2
namespace Go.Proofs.Ytppdmaeoipeefaa.Giv
open Go.RowKit Go.Proofs.YtppdmaeoipeefaaW.PrintWords Go.Proofs.YtppdmaeoipeefaaW.PrintLast Go.Proofs.YtppdmaeoipeefaaW.PrintMore Go.Proofs.Ytppdmaeoipeefaa.Oct Go.Proofs.Ytppdmaeoipeefaa.Ref
open Go.Proofs.Ytppdmaeoipeefaa.Q (S24 k24 z24 rd_T24 k24_mkM info24)
set_option linter.unusedVariables false
set_option linter.unusedSimpArgs false

set_option maxHeartbeats 800000 in
theorem number_any {w : World} {A : Option Addr} {c : Nat} {l : List Int} (hr : Kd.C (Kd.int .u8) w A l.length l) (hl : l.length ≤ 7) (hb : okB l) :
    Calls Try.prog 28 #[.slice A l.length c] w fun e w' => e = .returned (.int .u64 (numB l)) ∧ w = w' := by
  have HR := Aside0.mk hr
  have HBY := Aside0.mk hb
  clear hr hb
  go_enter Try.func28, Try.ntmps28
  go_wp2_with fail
  go_loop [3, 4] (fun v3 v4 => ∃ i : Nat, i ≤ l.length ∧ v4 = .int .i64 i ∧ v3 = .int .u64 (numB (l.take i))) (fun v3 v4 => l.length - (intOf v4).toNat)
  case atStart => exact ⟨0, Nat.zero_le _, rfl, rfl⟩
  case round =>
    obtain ⟨i, hi, rfl, rfl⟩ := hrel
    by_cases hlt : i < l.length
    · obtain ⟨ad, hA, hcell⟩ := Kd.at_int HR.out (i : Int) (by omega) (by omega)
      cases hA
      rw [Int.toNat_natCast, rd_at l i hlt] at hcell
      have hx := HBY.out l[i] (List.getElem_mem hlt)
      have hn := numB_range (l.take i) (fun y hy => HBY.out y (List.mem_of_mem_take hy))
      have hn' := numB_range (l.take (i + 1)) (fun y hy => HBY.out y (List.mem_of_mem_take hy))
      rw [List.length_take, Nat.min_eq_left (by omega)] at hn'
      have hp := pow256_le (n := i + 1) (by omega)
      have hs : numB (l.take (i + 1)) = numB (l.take i) * 256 + l[i] := by rw [List.take_succ_eq_append_getElem hlt, numB_snoc]
      have hval : IntKind.u64.wrap (IntKind.u64.wrap (numB (l.take i) * 256) + IntKind.u64.wrap l[i]) = numB (l.take (i + 1)) := by
        rw [hs, wrapu64_id (x := numB (l.take i) * 256) (by omega) (by omega), wrapu64_id (x := l[i]) (by omega) (by omega), wrapu64_id (by omega) (by omega)]
      have HV := Aside0.mk hval
      obtain ⟨x, hxe⟩ : ∃ x, l[i] = x := ⟨_, rfl⟩
      rw [hxe] at hcell HV
      clear hval hs hp hn hn' hx hxe
      go_wp2
      go_round
      case rel => exact ⟨i + 1, by omega, by go_num, by rw [← HV.out]⟩
      case measure => simp [intOf]; omega
    · have hi2 : i = l.length := by omega
      subst hi2
      go_wp2
      go_ret
      exact ⟨rfl, rfl⟩

/-- A cut of bytes that are only read. -/
theorem drop_drop4 {l : List Int} {i : Nat} {a b c d : Int} {r : List Int} (h : l.drop (4 * i) = a :: b :: c :: d :: r) : (l.take (4 * i + 4)).drop (4 * i) = [a, b, c, d] ∧ l.drop (4 * (i + 1)) = r ∧ 4 * i + 4 ≤ l.length := by
  have hlen : (l.drop (4 * i)).length = r.length + 4 := by rw [h]; rfl
  rw [List.length_drop] at hlen
  refine ⟨?_, ?_, by omega⟩
  · rw [List.drop_take, h, show 4 * i + 4 - 4 * i = 4 by omega]
    rfl
  · rw [show 4 * (i + 1) = 4 * i + 4 by omega, ← List.drop_drop, h]
    rfl
theorem numB_four (a b c d : Int) : numB [a, b, c, d] = num4 a b c d := by
  unfold numB num4
  simp only [List.foldl_cons, List.foldl_nil]
  omega

def rdec.T11 : Bool × List (List Nat × List Nat) := (true, [([], []), ([], []), ([], []), ([2], [2]), ([1, 3], [1, 3]), ([0, 0], [0]), ([4, 5, 0, 1, 2, 3, 4, 5], [4]), ([6, 0, 1, 2, 3, 4, 5, 6], [])])
def rdec.B11 : List Nat := [0, 0, 0, 4, 14, 1, 63, 127]
theorem rdec.tab11 : rtab .any (opsOf Try.f15 11) = rdec.T11 := by kernel_rfl
theorem rdec.bits11 : waitsOk rdec.T11.2 rdec.B11 = true := by kernel_rfl
set_option maxRecDepth 20000 in
set_option maxHeartbeats 3200000 in
theorem refdecode_any {w : World} {A : Option Addr} {c : Nat} {l : List Int} (hr : Kd.C (Kd.int .u8) w A l.length l) (hc : l.length ≤ c) (hl : l.length ≤ 4096) (hb : okB l) :
    Calls Try.prog 15 #[.slice A l.length c] w fun e w' => ∃ A0 c0 A1 c1, e = .returned (.tuple #[.slice A0 (decF l).1.length c0, .slice A1 (decF l).2.1.length c1, .int .i64 (decF l).2.2]) ∧ Kd.C k24 w' A0 (decF l).1.length (decF l).1 ∧ (decF l).1.length ≤ c0 ∧
      Kd.C (Kd.int .u8) w' A1 (decF l).2.1.length (decF l).2.1 ∧ Below w.heap.size w w' := by
  obtain ⟨i5, hi5, _, hs5, _⟩ := info_parts Oct.info5
  have HR := Aside0.mk hr
  have HBY := Aside0.mk hb
  have HI5 := Aside0.mk hi5
  have HS5 := Aside0.mk hs5
  have HD := Aside0.mk (show decGo 8 (l.drop (4 * 0)) [] = decF l from rfl)
  have HB := Aside0.mk (Below.refl w.heap.size w)
  clear hr hb hi5 hs5
  go_enter Try.func15, Try.ntmps15
  go_wp2_with fail
  go_loopg [5, 6] 8 (fun gk v5 v6 w' => ∃ (out : List S24) (k j : Nat), k = gk ∧ v6 = .int .i64 (j : Int) ∧ out.length + k = 8 ∧ Aside0 (Kd.R k24 24 w' w.heap.size (fun _ => True) v5 out) ∧
    Aside0 (decGo k (l.drop j) out = decF l) ∧ Aside0 (j = 4 * out.length) ∧ Aside0 (j ≤ l.length) ∧ Aside0 (Below w.heap.size w w'))
  case atStart => exact ⟨[], 8, 0, rfl, rfl, rfl, ⟨Kd.R_nil _ _ _ _ _⟩, HD, ⟨rfl⟩, ⟨by omega⟩, HB⟩
  case round =>
    clear HB HD
    obtain ⟨out, k, j, rfl, rfl, hk, HO, HD, HL, HIL, HB⟩ := hrel
    obtain ⟨A5, c5, e5⟩ := Kd.R_slice HO.out
    subst e5
    have hil := HIL.out
    have hol := HL.out
    cases k with
    | zero =>
      have h8 : ((out.length : Int) == 8) = true := by simp; omega
      clear hol hil
      go_wp2_with fail
      go_ret3
      have hd : decF l = ([], [], 3) := HD.out.symm
      rw [hd]
      exact ⟨none, 0, none, 0, rfl, Kd.C_nil _ _, Nat.le_refl _, Kd.C_nil _ _, HB.out⟩
    | succ k =>
      have h8 : ((out.length : Int) == 8) = false := by simp; omega
      have hsub : wrap64 ((l.length : Int) - (j : Int)) = (l.length : Int) - (j : Int) := wrap64_id (by omega) (by omega)
      by_cases hlen : l.length < j + 4
      · have hD : decGo (k + 1) (l.drop j) out = ([], [], 4) := by
          have hdl : (l.drop j).length < 4 := by rw [List.length_drop]; omega
          match l.drop j, hdl with
          | [], _ => rfl
          | [_], _ => rfl
          | [_, _], _ => rfl
          | [_, _, _], _ => rfl
          | _ :: _ :: _ :: _ :: _, h => simp at h; omega
        have Hd := Aside0.mk (HD.out.symm.trans hD)
        clear hD hol
        go_wp2_with fail
        go_ret3
        rw [Hd.out]
        exact ⟨none, 0, none, 0, rfl, Kd.C_nil _ _, Nat.le_refl _, Kd.C_nil _ _, HB.out⟩
      · obtain ⟨a, b, c', d, r, hdr⟩ : ∃ a b c d r, l.drop j = a :: b :: c :: d :: r := by
          have hdl : ¬ (l.drop j).length < 4 := by rw [List.length_drop]; omega
          match l.drop j, hdl with
          | a :: b :: c :: d :: r, _ => exact ⟨a, b, c, d, r, rfl⟩
          | [], h => simp at h
          | [_], h => simp at h
          | [_, _], h => simp at h
          | [_, _, _], h => simp at h
        obtain ⟨j4, hj4⟩ : ∃ j4 : Nat, j4 = j + 4 := ⟨_, rfl⟩
        have hmid : (l.take j4).drop j = [a, b, c', d] := by
          rw [List.drop_take, hdr, show j4 - j = 4 by omega]
          rfl
        have hrest : l.drop j4 = r := by rw [hj4, ← List.drop_drop, hdr]; rfl
        have hj4l : j4 ≤ l.length := by omega
        have hmem : ∀ x ∈ [a, b, c', d], 0 ≤ x ∧ x ≤ 255 := fun x hx => HBY.out x (List.mem_of_mem_take (List.mem_of_mem_drop (i := j) (by rw [hmid]; exact hx)))
        have ha := hmem a (by simp)
        have hb := hmem b (by simp)
        have hc' := hmem c' (by simp)
        have hd := hmem d (by simp)
        obtain ⟨n, hn⟩ : ∃ n, num4 a b c' d = n := ⟨_, rfl⟩
        have hn0 : 0 ≤ n ∧ n < 4294967296 := by rw [← hn]; unfold num4; omega
        have HD2 : Aside0 ((if n / 256 % 2 = 1 then (out ++ [entF n], r, 0) else decGo k r (out ++ [entF n])) = decF l) := ⟨by rw [← hn, ← HD.out, hdr]; rfl⟩
        have hadd : wrap64 ((j : Int) + 4) = (j4 : Int) := by rw [wrap64_id (by omega) (by omega)]; omega
        have hs44 := cut_from (P := Try.prog) 26 5 .i64 Try.underlying26 HI5.out 1 HS5.out A l.length c (j4 : Int) (by omega) (by omega)
        simp only [Int.toNat_natCast] at hs44
        have hCm := Kd.C_mid (Kd.C_below HR.out HB.out) (lo := j) (hi := j4) (c := c) (by omega) hj4l hc
        have hCr := Kd.C_drop HR.out (m := j4) (c := c) hj4l hc
        rw [hmid] at hCm
        rw [hrest] at hCr
        have e1 : (Kd.int .u8).sz = 1 := rfl
        rw [e1] at hCm hCr
        rw [if_neg (show ¬ c = j by omega), Nat.mul_one] at hCm
        obtain ⟨P2, hP2⟩ : ∃ P2, (if c = j4 then A else A.map (·.add (j4 * 1))) = P2 := ⟨_, rfl⟩
        rw [hP2] at hs44 hCr
        have hl4 : l.length - j4 = r.length := by rw [← hrest, List.length_drop]
        rw [hl4] at hs44
        obtain ⟨C2, hC2⟩ : ∃ C2, c - j4 = C2 := ⟨_, rfl⟩
        rw [hC2] at hs44
        have hj4i : (j4 : Int) = (j : Int) + 4 := by omega
        rw [hj4i] at hs44
        have HJ4I := Aside0.mk hj4i
        have HCM := Aside0.mk hCm
        have HCR := Aside0.mk hCr
        have hnum : numB [a, b, c', d] = n := by rw [numB_four, hn]
        have HN := Aside0.mk hnum
        have HOK : Aside0 (okB [a, b, c', d]) := ⟨hmem⟩
        have HJ : Aside0 (j4 = 4 * (out.length + 1)) := ⟨by omega⟩
        have HJL := Aside0.mk hj4l
        have HREST := Aside0.mk hrest
        clear hadd hj4i
        clear HD hmid hrest hmem ha hb hc' hd hn hP2 hC2 hCm hCr hnum hdr hol hj4 hl4 hj4l e1
        have hcj : c ≠ j := by omega
        go_wp2_with fail
        refine (number_any (l := [a, b, c', d]) HCM.out (by simp) HOK.out).mono ?_
        rintro e w' ⟨rfl, rfl⟩
        rw [HN.out]
        have Hlen : Aside0 ((out.length + 1) * 24 ≤ 140737488355328) := ⟨by omega⟩
        by_cases hbit : n / 256 % 2 = 1
        · have hx : (n / 256 % 2 == 1) = true := by simpa using hbit
          have hd : decF l = (out ++ [entF n], r, 0) := by rw [← HD2.out, if_pos hbit]
          have Hd := Aside0.mk hd
          clear hbit hd HD2
          go_wp2_with (at_builtin; refine Kd.R_append k24 (w0 := w) w.heap.size rfl (.tmp 25) (.tmp 34) 22 24 (.agg #[(.int .i64 0), (.int .i64 0), (.int .i64 0)]) 24 rfl Try.underlying22 info24 rfl (by decide) (by omega) (.slice A5 out.length c5) out (entF n) [.int .i64 (n / 4096), .int .i64 (n / 512 % 8), .int .i64 (n % 256)] (fun _ => True) (fun _ => False) rfl rfl ?aP (fun _ hk => hk.elim) (fun _ _ => trivial) HO.out HB.out HB.out.size Hlen.out ?_; (case aP => exact k24_mkM _ _ _ (entF n)); intro v35 w3 ho hb hg hat; have HO3 := Aside0.mk ho; have HB3 := Aside0.mk hb; clear ho hb hg hat; obtain ⟨A35, c35, e35⟩ := Kd.R_slice HO3.out; subst e35)
          have HC3 := Aside0.mk (Kd.C_drew (Kd.C_below HCR.out HB3.out))
          have HE3 := Aside0.mk (Kd.C_drew (Kd.R_reads' HO3.out).2.2)
          have hc35 := (Kd.R_reads' HO3.out).2.1
          replace HB3 := Aside0.mk (below_drew HB3.out)
          clear HO3 HO HB HCM HCR HN HOK HR
          refine start_ (n := 8) (S := fun w' => True) (ds := []) #[false, false, false, false, false, false, false, false] (by kernel_rfl) rfl rfl trivial (fun hHeld => ?_)
          refine with_tabW rdec.tab11 rdec.bits11 (fun HT_ HW_ => ?_)
          refine inv_at [0, 1, 2, 3, 4, 5, 6, 7] (fun a0_ b a w' => a = putSel a0_ b [(0, 40, .slice A35 (out.length + 1) c35), (1, 41, .slice A l.length c), (2, 42, .int .i64 (j : Int)), (3, 43, .int .i64 ((j : Int) + 4)), (4, 44, .slice P2 r.length C2), (5, 2, .slice A35 (out.length + 1) c35), (6, 3, .slice P2 r.length C2), (7, 4, .int .i64 0)] ∧ (Below w.heap.size w w') ∧ (Kd.C (Kd.int .u8) w' P2 r.length r) ∧ (Kd.C k24 w' A35 (out ++ [entF n]).length (out ++ [entF n]))) HT_.out HW_.out (by kernel_rfl) (by kernel_rfl) ?_ ?_ ?_
          · exact ⟨by simp only [putSel, Bool.false_eq_true, if_false], HB3.out, HC3.out, HE3.out⟩
          · skip
            clear HB3 HC3 HE3
            refine steps_cons ?_ ?_
            · rintro b a w' ⟨ha, Q_HB3, Q_HC3, Q_HE3⟩ hb_ hon hoff
              refine ⟨_, rfl, fun K hK => ?_⟩
              have e5 : a.tmps[5]? = some (.slice A35 (out.length + 1) c35) := by rw [ha]; exact (putSel_off rfl).trans rfl
              replace ha := Aside0.mk ha
              have HB3 := Aside0.mk Q_HB3
              have HC3 := Aside0.mk Q_HC3
              have HE3 := Aside0.mk Q_HE3
              refine value_ (w1 := w') (v := .slice A35 (out.length + 1) c35) (by rfl) rfl ?_ ?_
              · go_simp
                (try simp only [i64_w])
                try rfl
                all_goals (try (unfold wrap64; omega))
              refine hK.out _ _ ⟨(by rw [ha.out]; exact putSel_upk 0 hb_ rfl rfl rfl), Q_HB3, Q_HC3, Q_HE3⟩
            refine steps_cons ?_ ?_
            · rintro b a w' ⟨ha, Q_HB3, Q_HC3, Q_HE3⟩ hb_ hon hoff
              refine ⟨_, rfl, fun K hK => ?_⟩
              have e0 : a.tmps[0]? = some (.slice A l.length c) := by rw [ha]; exact (putSel_off rfl).trans rfl
              replace ha := Aside0.mk ha
              have HB3 := Aside0.mk Q_HB3
              have HC3 := Aside0.mk Q_HC3
              have HE3 := Aside0.mk Q_HE3
              refine value_ (w1 := w') (v := .slice A l.length c) (by rfl) rfl ?_ ?_
              · go_simp
                (try simp only [i64_w])
                try rfl
                all_goals (try (unfold wrap64; omega))
              refine hK.out _ _ ⟨(by rw [ha.out]; exact putSel_upk 1 hb_ rfl rfl rfl), Q_HB3, Q_HC3, Q_HE3⟩
            refine steps_cons ?_ ?_
            · rintro b a w' ⟨ha, Q_HB3, Q_HC3, Q_HE3⟩ hb_ hon hoff
              refine ⟨_, rfl, fun K hK => ?_⟩
              have e6 : a.tmps[6]? = some (.int .i64 (j : Int)) := by rw [ha]; exact (putSel_off rfl).trans rfl
              replace ha := Aside0.mk ha
              have HB3 := Aside0.mk Q_HB3
              have HC3 := Aside0.mk Q_HC3
              have HE3 := Aside0.mk Q_HE3
              refine value_ (w1 := w') (v := .int .i64 (j : Int)) (by rfl) rfl ?_ ?_
              · go_simp
                (try simp only [i64_w])
                try rfl
                all_goals (try (unfold wrap64; omega))
              refine hK.out _ _ ⟨(by rw [ha.out]; exact putSel_upk 2 hb_ rfl rfl rfl), Q_HB3, Q_HC3, Q_HE3⟩
            refine steps_cons ?_ ?_
            · rintro b a w' ⟨ha, Q_HB3, Q_HC3, Q_HE3⟩ hb_ hon hoff
              refine ⟨_, rfl, fun K hK => ?_⟩
              have e42 : a.tmps[42]? = some (.int .i64 (j : Int)) := by rw [ha]; exact putSel_on (e := (2, 42, .int .i64 (j : Int))) 2 rfl rfl (hon 2 (by kernel_rfl)) rfl
              replace ha := Aside0.mk ha
              have HB3 := Aside0.mk Q_HB3
              have HC3 := Aside0.mk Q_HC3
              have HE3 := Aside0.mk Q_HE3
              refine value_ (w1 := w') (v := .int .i64 ((j : Int) + 4)) (by rfl) rfl ?_ ?_
              · go_simp
                (try simp only [i64_w])
                try rfl
                all_goals (try (unfold wrap64; omega))
              refine hK.out _ _ ⟨(by rw [ha.out]; exact putSel_upk 3 hb_ rfl rfl rfl), Q_HB3, Q_HC3, Q_HE3⟩
            refine steps_cons ?_ ?_
            · rintro b a w' ⟨ha, Q_HB3, Q_HC3, Q_HE3⟩ hb_ hon hoff
              refine ⟨_, rfl, fun K hK => ?_⟩
              have e41 : a.tmps[41]? = some (.slice A l.length c) := by rw [ha]; exact putSel_on (e := (1, 41, .slice A l.length c)) 1 rfl rfl (hon 1 (by kernel_rfl)) rfl
              have e43 : a.tmps[43]? = some (.int .i64 ((j : Int) + 4)) := by rw [ha]; exact putSel_on (e := (3, 43, .int .i64 ((j : Int) + 4))) 3 rfl rfl (hon 3 (by kernel_rfl)) rfl
              replace ha := Aside0.mk ha
              have HB3 := Aside0.mk Q_HB3
              have HC3 := Aside0.mk Q_HC3
              have HE3 := Aside0.mk Q_HE3
              refine value_ (w1 := w') (v := .slice P2 r.length C2) (by rfl) rfl ?_ ?_
              · go_simp
                (try simp only [i64_w])
                try rfl
                all_goals (try (unfold wrap64; omega))
              refine hK.out _ _ ⟨(by rw [ha.out]; exact putSel_upk 4 hb_ rfl rfl rfl), Q_HB3, Q_HC3, Q_HE3⟩
            refine steps_cons ?_ ?_
            · rintro b a w' ⟨ha, Q_HB3, Q_HC3, Q_HE3⟩ hb_ hon hoff
              refine ⟨_, rfl, fun K hK => ?_⟩
              have e40 : a.tmps[40]? = some (.slice A35 (out.length + 1) c35) := by rw [ha]; exact putSel_on (e := (0, 40, .slice A35 (out.length + 1) c35)) 0 rfl rfl (hon 0 (by kernel_rfl)) rfl
              replace ha := Aside0.mk ha
              have HB3 := Aside0.mk Q_HB3
              have HC3 := Aside0.mk Q_HC3
              have HE3 := Aside0.mk Q_HE3
              refine value_ (w1 := w') (v := .slice A35 (out.length + 1) c35) (by rfl) rfl ?_ ?_
              · go_simp
                (try simp only [i64_w])
                try rfl
                all_goals (try (unfold wrap64; omega))
              refine hK.out _ _ ⟨(by rw [ha.out]; exact putSel_upk 5 hb_ rfl rfl rfl), Q_HB3, Q_HC3, Q_HE3⟩
            refine steps_cons ?_ ?_
            · rintro b a w' ⟨ha, Q_HB3, Q_HC3, Q_HE3⟩ hb_ hon hoff
              refine ⟨_, rfl, fun K hK => ?_⟩
              have e44 : a.tmps[44]? = some (.slice P2 r.length C2) := by rw [ha]; exact putSel_on (e := (4, 44, .slice P2 r.length C2)) 4 rfl rfl (hon 4 (by kernel_rfl)) rfl
              replace ha := Aside0.mk ha
              have HB3 := Aside0.mk Q_HB3
              have HC3 := Aside0.mk Q_HC3
              have HE3 := Aside0.mk Q_HE3
              refine value_ (w1 := w') (v := .slice P2 r.length C2) (by rfl) rfl ?_ ?_
              · go_simp
                (try simp only [i64_w])
                try rfl
                all_goals (try (unfold wrap64; omega))
              refine hK.out _ _ ⟨(by rw [ha.out]; exact putSel_upk 6 hb_ rfl rfl rfl), Q_HB3, Q_HC3, Q_HE3⟩
            refine steps_cons ?_ ?_
            · rintro b a w' ⟨ha, Q_HB3, Q_HC3, Q_HE3⟩ hb_ hon hoff
              refine ⟨_, rfl, fun K hK => ?_⟩
              replace ha := Aside0.mk ha
              have HB3 := Aside0.mk Q_HB3
              have HC3 := Aside0.mk Q_HC3
              have HE3 := Aside0.mk Q_HE3
              refine value_ (w1 := w') (v := .int .i64 0) (by rfl) rfl ?_ ?_
              · go_simp
                (try simp only [i64_w])
                try rfl
                all_goals (try (unfold wrap64; omega))
              refine hK.out _ _ ⟨(by rw [ha.out]; exact putSel_upk 7 hb_ rfl rfl rfl), Q_HB3, Q_HC3, Q_HE3⟩
            exact steps_nil
          rintro b a w6 hall ⟨ha, Q_HB3, Q_HC3, Q_HE3⟩
          clear HB3 HC3 HE3
          have hb0_ := hall 0 (by kernel_rfl)
          have hb1_ := hall 1 (by kernel_rfl)
          have hb2_ := hall 2 (by kernel_rfl)
          have hb3_ := hall 3 (by kernel_rfl)
          have hb4_ := hall 4 (by kernel_rfl)
          have hb5_ := hall 5 (by kernel_rfl)
          have hb6_ := hall 6 (by kernel_rfl)
          have hb7_ := hall 7 (by kernel_rfl)
          subst ha
          simp only [putSel, hb0_, hb1_, hb2_, hb3_, hb4_, hb5_, hb6_, hb7_, if_true, Act.put, List.setIfInBounds_toArray, List.set_cons_zero, List.set_cons_succ]
          have HB3 := Aside0.mk Q_HB3
          clear Q_HB3
          have HC3 := Aside0.mk Q_HC3
          clear Q_HC3
          have HE3 := Aside0.mk Q_HE3
          clear Q_HE3
          clear hall hb0_ hb1_ hb2_ hb3_ hb4_ hb5_ hb6_ hb7_
          go_wp2_with fail
          go_ret3
          rw [Hd.out]
          refine ⟨A35, c35, P2, C2, ?_, HE3.out, hc35, HC3.out, HB3.out⟩
          rw [List.length_append]
          rfl
        · have hx : (n / 256 % 2 == 1) = false := by simpa using hbit
          have hd : decGo k r (out ++ [entF n]) = decF l := by rw [← HD2.out, if_neg hbit]
          have Hd := Aside0.mk hd
          clear hbit hd HD2
          go_wp2_with (at_builtin; refine Kd.R_append k24 (w0 := w) w.heap.size rfl (.tmp 25) (.tmp 34) 22 24 (.agg #[(.int .i64 0), (.int .i64 0), (.int .i64 0)]) 24 rfl Try.underlying22 info24 rfl (by decide) (by omega) (.slice A5 out.length c5) out (entF n) [.int .i64 (n / 4096), .int .i64 (n / 512 % 8), .int .i64 (n % 256)] (fun _ => True) (fun _ => False) rfl rfl ?aP (fun _ hk => hk.elim) (fun _ _ => trivial) HO.out HB.out HB.out.size Hlen.out ?_; (case aP => exact k24_mkM _ _ _ (entF n)); intro v35 w3 ho hb hg hat; have HO3 := Aside0.mk ho; have HB3 := Aside0.mk hb; clear ho hb hg hat; obtain ⟨A35, c35, e35⟩ := Kd.R_slice HO3.out; subst e35)
          go_roundg k
          case rel => exact ⟨out ++ [entF n], k, j4, rfl, by rw [HJ4I.out], by rw [List.length_append, List.length_singleton]; omega, ⟨by have := HO3.out; rw [List.length_append] at this; exact this⟩, ⟨by rw [HREST.out]; exact Hd.out⟩, ⟨by rw [List.length_append, List.length_singleton]; exact HJ.out⟩, HJL, HB3⟩
          case measure => omega
end Go.Proofs.Ytppdmaeoipeefaa.Giv
