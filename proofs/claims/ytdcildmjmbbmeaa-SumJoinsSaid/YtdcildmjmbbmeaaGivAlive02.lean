/- viaductlaw02.alive answers true. -/
import Derived.Test.YtdcildmjmbbmeaaQ1
import Derived.Test.YtdcildmjmbbmeaaGivSum
namespace Go.Proofs.Ytdcildmjmbbmeaa.Giv
open Go.RowKit Go.Proofs.YtdcildmjmbbmeaaW.PrintWords Go.Proofs.YtdcildmjmbbmeaaW.PrintLast Go.Proofs.YtdcildmjmbbmeaaW.PrintMore Go.Proofs.Ytdcildmjmbbmeaa.Oct Go.Proofs.Ytdcildmjmbbmeaa.Q
set_option linter.unusedVariables false
set_option linter.unusedSimpArgs false

def viaductlaw02_alive.f : Option Bool := some true
set_option maxHeartbeats 1600000 in
theorem viaductlaw02_alive.calls (r : Bool) (w : World) (h : viaductlaw02_alive.f = some r) :
    Calls Try.prog 9 #[] w fun e w' => e = .returned (.bool r) ∧ Below w.heap.size w w' := by
  cases h
  go_enter Try.func9, Try.ntmps9
  go_wp2_with fail
  have hO := lit_row w w.heap.size (Nat.le_refl _) [1, 2, 0, 0] #[.int .u8 1, .int .u8 2, .int .u8 0, .int .u8 0] rfl (by simp)
  refine (sum_Seal.calls _ 4 [1, 2, 0, 0] 2 [1, 2, 254, 253] 0 _ (Kd.R_reads' hO).2.2 (by simp) (by decide +kernel)).mono ?_
  rintro e w1 ⟨v1, rfl, hv, hb⟩
  have HB1 := Aside0.mk (below_then (below_alloc (Below.refl w.heap.size w) (.cells #[.int .u8 1, .int .u8 2, .int .u8 0, .int .u8 0] 5)) (by simp) hb)
  have HV1 := Aside0.mk hv
  clear hO hv hb
  obtain ⟨A1, c1, e1⟩ := Kd.R_slice HV1.out
  subst e1
  go_wp2_with fail
  have hO := lit_row w1 w.heap.size HB1.out.size [0, 1, 242, 3, 244, 245, 246, 247] #[.int .u8 0, .int .u8 1, .int .u8 242, .int .u8 3, .int .u8 244, .int .u8 245, .int .u8 246, .int .u8 247] rfl (by simp)
  refine (sum_Of.calls _ 8 [0, 1, 242, 3, 244, 245, 246, 247] 8717 _ (Kd.R_reads' hO).2.2 (by simp) (by decide +kernel)).mono ?_
  rintro e w2 ⟨rfl, hb⟩
  have hb2 := below_then (below_alloc (Below.refl w1.heap.size w1) (.cells #[.int .u8 0, .int .u8 1, .int .u8 242, .int .u8 3, .int .u8 244, .int .u8 245, .int .u8 246, .int .u8 247] 5)) (by simp) hb
  have HB2 := Aside0.mk (below_then HB1.out HB1.out.size hb2)
  have HV2 := Aside0.mk (Kd.R_below HV1.out hb2)
  clear hO hb hb2 HV1 HB1
  have hs : (convert 22 9 (.slice A1 4 c1)).run Try.prog w2 = .ok (.string ⟨#[1, 2, 254, 253]⟩) w2 := conv (xs := [1, 2, 254, 253]) (Kd.R_reads' HV2.out).2.2
  go_wp2_with fail
  refine (add_calls 65535 1 (by omega) (by omega) (by omega) (by omega) _).mono ?_
  rintro e w3 ⟨rfl, rfl⟩
  have ha : addF 65535 1 = 1 := by decide
  rw [ha]
  clear ha
  go_wp2_with fail
  refine (sum_Right.calls _ c1 [1, 2, 254, 253] true _ (Kd.R_reads' HV2.out).2.2 (Kd.R_reads' HV2.out).2.1 (by decide +kernel)).mono ?_
  rintro e w3 ⟨rfl, hb⟩
  have HB3 := Aside0.mk (below_then HB2.out HB2.out.size hb)
  clear hb hs
  go_wp2
  go_ret
  exact ⟨rfl, HB3.out⟩
end Go.Proofs.Ytdcildmjmbbmeaa.Giv
