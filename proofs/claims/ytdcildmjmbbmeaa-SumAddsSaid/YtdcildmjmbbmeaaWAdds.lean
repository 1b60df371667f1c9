/- SumAdds answers true. -/
import Derived.Test.YtdcildmjmbbmeaaPureSum
import Derived.Deep.RegionWith
namespace Go.Proofs.Ytdcildmjmbbmeaa.Walk
open Go.RowKit Go.Proofs.YtdcildmjmbbmeaaW.PrintWords Go.Proofs.YtdcildmjmbbmeaaW.PrintLast Go.Proofs.YtdcildmjmbbmeaaW.PrintMore Go.Proofs.Ytdcildmjmbbmeaa.Oct Go.Proofs.Ytdcildmjmbbmeaa.Q Go.Proofs.Ytdcildmjmbbmeaa.Ref Go.Proofs.Ytdcildmjmbbmeaa.Giv
set_option linter.unusedVariables false
set_option linter.unusedSimpArgs false

theorem addF_comm (a b : Int) : addF a b = addF b a := by unfold addF; rw [Int.add_comm]
theorem addF_assoc {a b c : Int} (a0 : 0 ≤ a) (a1 : a ≤ 65535) (b0 : 0 ≤ b) (b1 : b ≤ 65535) (c0 : 0 ≤ c) (c1 : c ≤ 65535) : addF (addF a b) c = addF a (addF b c) := by
  unfold addF; split <;> split <;> split <;> split <;> omega
theorem addF_zero {a : Int} (a0 : 0 ≤ a) (a1 : a ≤ 65535) : addF a 0 = a := by unfold addF; split <;> omega

set_option maxHeartbeats 2000000 in
set_option maxRecDepth 20000 in
theorem adds_walk (a0 a1 a2 : Int) (w : World) (w0 : (Lit.int .u16 a0).wf = true) (w1 : (Lit.int .u16 a1).wf = true) (w2 : (Lit.int .u16 a2).wf = true) :
    Calls Try.prog 8 #[.int .u16 a0, .int .u16 a1, .int .u16 a2] w fun e w' => e = .returned (.bool true) ∧ Below w.heap.size w w' := by
  have A := bounds_u16 w0
  have B := bounds_u16 w1
  have C := bounds_u16 w2
  have D := addF_range A.1 A.2 B.1 B.2
  have E := addF_range B.1 B.2 C.1 C.2
  have hz : addF a0 0 = a0 := addF_zero A.1 A.2
  have ha0 : addF (addF a0 a1) a2 = addF a0 (addF a1 a2) := addF_assoc A.1 A.2 B.1 B.2 C.1 C.2
  have hc : (addF a0 a1 == addF a1 a0) = true := beq_iff_eq.mpr (addF_comm _ _)
  have ha : (addF (addF a0 a1) a2 == addF a0 (addF a1 a2)) = true := beq_iff_eq.mpr ha0
  have hz1 : (addF a0 0 == a0) = true := beq_iff_eq.mpr hz
  obtain ⟨x, hx⟩ : ∃ x, addF a0 a1 = x := ⟨_, rfl⟩
  obtain ⟨x2, hx2⟩ : ∃ x2, addF a1 a0 = x2 := ⟨_, rfl⟩
  obtain ⟨y, hy⟩ : ∃ y, addF a1 a2 = y := ⟨_, rfl⟩
  obtain ⟨z, hz2⟩ : ∃ z, addF a0 0 = z := ⟨_, rfl⟩
  rw [hx, hy] at ha
  rw [hx, hx2] at hc
  rw [hz2] at hz1
  rw [hx] at D
  rw [hy] at E
  obtain ⟨u, hu⟩ : ∃ u, addF x a2 = u := ⟨_, rfl⟩
  obtain ⟨v, hv⟩ : ∃ v, addF a0 y = v := ⟨_, rfl⟩
  rw [hu, hv] at ha
  have HX := Aside0.mk hx
  have HX2 := Aside0.mk hx2
  have HY := Aside0.mk hy
  have HZ := Aside0.mk hz2
  have HU := Aside0.mk hu
  have HV := Aside0.mk hv
  have HA := Aside0.mk A
  have HB := Aside0.mk B
  have HC := Aside0.mk C
  have HD := Aside0.mk D
  have HE := Aside0.mk E
  clear A B C D E hz ha0 hx hx2 hy hz2 hu hv w0 w1 w2
  go_enter Try.func8, Try.ntmps8
  go_wp2_with fail
  refine (viaductlaw02_alive.calls true _ rfl).mono ?_
  rintro e w1 ⟨rfl, hb⟩
  have HB1 := Aside0.mk hb
  clear hb
  go_wp2_with fail
  refine (add_calls a0 a1 HA.out.1 HA.out.2 HB.out.1 HB.out.2 _).mono ?_
  rintro e w' ⟨rfl, rfl⟩
  rw [HX.out]
  go_wp2_with fail
  refine (add_calls a1 a0 HB.out.1 HB.out.2 HA.out.1 HA.out.2 _).mono ?_
  rintro e w' ⟨rfl, rfl⟩
  rw [HX2.out]
  go_wp2_with fail
  refine (add_calls a0 a1 HA.out.1 HA.out.2 HB.out.1 HB.out.2 _).mono ?_
  rintro e w' ⟨rfl, rfl⟩
  rw [HX.out]
  go_wp2_with fail
  refine (add_calls x a2 HD.out.1 HD.out.2 HC.out.1 HC.out.2 _).mono ?_
  rintro e w' ⟨rfl, rfl⟩
  rw [HU.out]
  go_wp2_with fail
  refine (add_calls a1 a2 HB.out.1 HB.out.2 HC.out.1 HC.out.2 _).mono ?_
  rintro e w' ⟨rfl, rfl⟩
  rw [HY.out]
  go_wp2_with fail
  refine (add_calls a0 y HA.out.1 HA.out.2 HE.out.1 HE.out.2 _).mono ?_
  rintro e w' ⟨rfl, rfl⟩
  rw [HV.out]
  go_wp2_with fail
  refine (add_calls a0 0 HA.out.1 HA.out.2 (by omega) (by omega) _).mono ?_
  rintro e w' ⟨rfl, rfl⟩
  rw [HZ.out]
  go_wp2_with fail
  go_ret
  exact ⟨rfl, HB1.out⟩

end Go.Proofs.Ytdcildmjmbbmeaa.Walk
