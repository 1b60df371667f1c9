/- ShimDecodes answers true. -/
import Derived.Test.YtppdmaeoipeefaaGivRefDec
import Derived.Deep.RegionWith
namespace Go.Proofs.Ytppdmaeoipeefaa.Walk
open Go.RowKit Go.Proofs.YtppdmaeoipeefaaW.PrintWords Go.Proofs.YtppdmaeoipeefaaW.PrintLast Go.Proofs.YtppdmaeoipeefaaW.PrintMore Go.Proofs.Ytppdmaeoipeefaa.Oct Go.Proofs.Ytppdmaeoipeefaa.Q Go.Proofs.Ytppdmaeoipeefaa.Ref Go.Proofs.Ytppdmaeoipeefaa.Giv
set_option linter.unusedVariables false
set_option linter.unusedSimpArgs false

theorem decGo_len : ∀ (k : Nat) (l : List Int) (out : List S24), (decGo k l out).1.length ≤ out.length + k
  | 0, l, out => by simp [decGo]
  | k + 1, [], out => by simp [decGo]
  | k + 1, [_], out => by simp [decGo]
  | k + 1, [_, _], out => by simp [decGo]
  | k + 1, [_, _, _], out => by simp [decGo]
  | k + 1, a :: b :: c :: d :: t, out => by
    have ih := decGo_len k t (out ++ [entF (num4 a b c d)])
    rw [List.length_append] at ih
    rw [decGo]
    split
    · simp
    · simp only [List.length_singleton] at ih
      omega

set_option maxRecDepth 20000 in
set_option maxHeartbeats 2000000 in
theorem decodes_small {w : World} {B : Option Addr} {d : Nat} {q : List Int} (hr2 : Kd.C (Kd.int .u8) w B q.length q) (hc2 : q.length ≤ d) (hl2 : q.length ≤ 4096) (hq : okB q) :
    Calls Try.prog 4 #[.slice B q.length d] w fun e w' => e = .returned (.bool true) ∧ Below w.heap.size w w' := by
  obtain ⟨k0, hk0⟩ := alive03.rounds
  have hD := decode_f (l := q) (by omega) hq
  have hm8 : (decF q).1.length ≤ 8 := decGo_len 8 q []
  obtain ⟨⟨m, r, f⟩, hdec⟩ : ∃ p, decF q = p := ⟨_, rfl⟩
  rw [hdec] at hD hm8
  simp only at hm8
  obtain ⟨k2, hk2⟩ := (same_ev m (by omega)).rounds
  have HR2 := Aside0.mk hr2
  have HQ := Aside0.mk hq
  have HK0 := Aside0.mk hk0
  have HK2 := Aside0.mk hk2
  have HD := Aside0.mk hD
  have HDEC := Aside0.mk hdec
  clear hr2 hq hk0 hk2 hD hdec hm8
  go_enter Try.func4, Try.ntmps4
  go_wp2_with fail
  refine (viaductlaw03_alive.calls k0 true _ HK0.out).mono ?_
  rintro e w2 ⟨rfl, hb⟩
  have HB := Aside0.mk hb
  clear hb
  go_wp2_with fail
  refine (shim_Decode.calls B d q m r f _ (Kd.C_below HR2.out HB.out) hc2 HD.out).mono ?_
  rintro e w3 ⟨v10, v11, rfl, hv, hv2, hb⟩
  obtain ⟨A11, c11, e11⟩ := Kd.V_slice hv2
  subst e11
  obtain ⟨A10, c10, e10⟩ := Kd.R_slice hv
  subst e10
  have HC11 := Aside0.mk (Kd.V_reads' hv2).2.2
  have HC10 := Aside0.mk (Kd.R_reads' hv).2.2
  have hc10 := (Kd.R_reads' hv).2.1
  replace HB := Aside0.mk (below_then HB.out HB.out.size hb)
  clear hv hv2 hb
  go_wp2_with fail
  have hrd := refdecode_any (Kd.C_below HR2.out HB.out) hc2 hl2 HQ.out
  rw [HDEC.out] at hrd
  refine hrd.mono ?_
  clear hrd
  rintro e w4 ⟨A20, c20, A21, c21, rfl, hC20, hc20, hC21, hb⟩
  have HC20 := Aside0.mk hC20
  have HC21 := Aside0.mk hC21
  replace HC10 := Aside0.mk (Kd.C_below HC10.out hb)
  replace HC11 := Aside0.mk (Kd.C_below HC11.out hb)
  replace HB := Aside0.mk (below_then HB.out HB.out.size hb)
  clear hC20 hC21 hb
  simp only at hc20
  go_wp2_with fail
  refine (viaductref03_Same.calls k2 A10 c10 m A20 c20 m true _ HC10.out hc10 HC20.out hc20 HK2.out).mono ?_
  rintro e w5 ⟨rfl, ⟨nd, rfl⟩⟩
  have hb : Below w4.heap.size w4 (w4.drewN nd) := pw_below_drewN (Below.refl _ _) nd
  have hcv1 := conv (c := c11) (Kd.C_below HC11.out hb)
  have hcv2 := conv (c := c21) (Kd.C_below HC21.out hb)
  replace HB := Aside0.mk (below_then HB.out HB.out.size hb)
  clear hb
  go_wp2_with fail
  go_ret
  exact ⟨rfl, HB.out⟩

theorem decodes_big {w : World} {B : Option Addr} {d lb : Nat} (hm2 : lb ≤ maxLen) (hl : ¬ lb ≤ 4096) :
    Calls Try.prog 4 #[.slice B lb d] w fun e w' => e = .returned (.bool true) ∧ Below w.heap.size w w' := by
  unfold maxLen at hm2
  obtain ⟨k0, hk0⟩ := alive03.rounds
  have HK0 := Aside0.mk hk0
  clear hk0
  go_enter Try.func4, Try.ntmps4
  go_wp2_with fail
  refine (viaductlaw03_alive.calls k0 true _ HK0.out).mono ?_
  rintro e w1 ⟨rfl, hb⟩
  have HB1 := Aside0.mk hb
  clear hb
  go_wp2
  go_ret
  exact ⟨rfl, HB1.out⟩

theorem decodes_walk (B : Option Addr) (d : Nat) (q : List Int) (w : World) (hC' : Kd.C (Kd.int .u8) w B q.length q) (hc' : q.length ≤ d) (hm' : d ≤ maxLen) (hw' : ∀ y ∈ q, (Lit.int .u8 y).wf = true) (hy : q.length * 1 ≤ 140737488351232) :
    Calls Try.prog 4 #[.slice B q.length d] w fun e w' => e = .returned (.bool true) ∧ Below w.heap.size w w' := by
  by_cases hl : q.length ≤ 4096
  · exact decodes_small hC' hc' hl (fun x hx => bounds_u8 (hw' x hx))
  · exact decodes_big (Nat.le_trans hc' hm') hl
end Go.Proofs.Ytppdmaeoipeefaa.Walk
