/- viaductlaw01.alive answers true. -/
import Derived.Test.YtkjfemkmooepnaaPut
namespace Go.Proofs.Ytkjfemkmooepnaa.Giv
open Go.RowKit Go.Proofs.YtkjfemkmooepnaaW.PrintWords Go.Proofs.YtkjfemkmooepnaaW.PrintLast Go.Proofs.YtkjfemkmooepnaaW.PrintMore Go.Proofs.Ytkjfemkmooepnaa.Oct
set_option linter.unusedVariables false
set_option linter.unusedSimpArgs false

def viaductlaw01_alive.f : Option Bool := some true
set_option maxHeartbeats 1600000 in
theorem viaductlaw01_alive.calls (r : Bool) (w : World) (h : viaductlaw01_alive.f = some r) :
    Calls Try.prog 9 #[] w fun e w' => e = .returned (.bool r) ∧ Below w.heap.size w w' := by
  cases h
  go_enter Try.func9, Try.ntmps9
  go_wp2_with ((with_reducible refine gate_dst (N := 4) rfl ?_); refine Kd.R_lit (Kd.int .u8) (w0 := w) w.heap.size 5 ?hg (N := 4) ?hd (xs := [1, 2, 3]) (inner := [.int .u8 1, .int .u8 2, .int .u8 3]) (ok := fun _ => True) (okp := fun _ => True) ?hr ?hp (fun _ hk => hk) trivial (Below.refl _ _) (Nat.le_refl _) (by simp) ?_; (case hd => rfl); (case hg => rfl); (case hr => first | (go_simp; done) | (go_simp; rfl)); (case hp => exact Kd.reps_scalar [1, 2, 3]); intro v1 w1 ho hb hg hat; have HO := Aside0.mk ho; have HB := Aside0.mk hb; clear ho hb hg hat; obtain ⟨Ao, co, eo⟩ := Kd.R_slice HO.out; subst eo)
  refine (new_calls (Kd.R_reads' HO.out).2.2 (Kd.R_reads' HO.out).2.1 (by simp)).mono ?_
  rintro e w2 ⟨g, rfl, hR, hb⟩
  have HB2 := Aside0.mk (below_then HB.out HB.out.size hb)
  have hgw : w.heap.size ≤ g := Nat.le_trans HB.out.size hR.1
  have HR := Aside0.mk (hR.lower HB.out.size)
  clear hR hb HB HO
  go_wp2_with fail
  refine (uint_at HR.out 2 (v := 258) (L := [3]) (E := 0) (by decide +kernel) (by decide) (by decide)).mono ?_
  rintro e w3 ⟨rfl, hR, hg⟩
  have HB3 := Aside0.mk (HB2.out.grown hg HB2.out.size (by intro k hk; cases hk; exact hgw))
  clear HR HB2 hg
  have HR := Aside0.mk hR
  clear hR
  go_wp2_with fail
  refine (left_calls HR.out).mono ?_
  rintro e w' ⟨rfl, rfl⟩
  go_wp2_with fail
  refine (uint_at HR.out 2 (v := 0) (L := [3]) (E := 4) (by decide +kernel) (by decide) (by decide)).mono ?_
  rintro e w4 ⟨rfl, hR, hg⟩
  have HB4 := Aside0.mk (HB3.out.grown hg HB3.out.size (by intro k hk; cases hk; exact hgw))
  clear HR HB3 hg
  have HR := Aside0.mk hR
  clear hR
  go_wp2_with fail
  refine (put_any (l := []) (Kd.C_nil _ _) (Nat.zero_le _) (by simp) 2 258).mono ?_
  rintro e w5 ⟨v, rfl, hv, hb⟩
  have hB : putB [] 2 258 = [1, 2] := by decide +kernel
  have hE : putE 2 258 = 0 := by decide +kernel
  rw [hB] at hv
  rw [hE]
  clear hB hE
  have HR5 := Aside0.mk (HR.out.below hb)
  have HV := Aside0.mk hv
  have HB5 := Aside0.mk (below_then HB4.out HB4.out.size hb)
  clear HR HB4 hb hv
  obtain ⟨Av, cv, ev⟩ := Kd.R_slice HV.out
  subst ev
  have hs : (convert 22 9 (.slice Av 2 cv)).run Try.prog w5 = .ok (.string ⟨#[1, 2]⟩) w5 := Kd.C_string (P := Try.prog) (A := Av) (c := cv) (xs := [1, 2]) (n := 2) Try.underlying22 Try.underlying5 Try.underlying9 (Kd.R_reads' HV.out).2.2
  go_wp2_with fail
  refine (err_calls HR5.out).mono ?_
  rintro e w' ⟨rfl, rfl⟩
  go_wp2_with fail
  have hO : Kd.R (Kd.int .u8) 5 (w5.alloc (.cells #[.int .u8 1] 5)) w.heap.size (fun _ => True) (.slice (some ⟨w5.heap.size, 0, none⟩) 1 1) [1] :=
    Kd.R_of_own (h1 := fun _ => rfl) (own_lit_of (enc := Value.int .u8) w5 w.heap.size 5 [1] HB5.out.size (by simp)) (fun _ _ => trivial)
  refine (pad_calls (l := [1]) (Kd.R_reads' hO).2.2 (Kd.R_reads' hO).2.1 (by simp)).mono ?_
  rintro e w7 ⟨v7, rfl, hv, hb⟩
  have hp : padF [1] = [1, 0, 0, 0] := by decide
  rw [hp] at hv
  have HB7 := Aside0.mk (below_then HB5.out HB5.out.size (below_then (below_alloc (Below.refl _ _) (.cells #[.int .u8 1] 5)) (by simp) hb))
  obtain ⟨A7, c7, e7⟩ := Kd.R_slice hv
  subst e7
  clear hO hv hb hp HB5 HV HR5
  go_wp2
  go_ret
  exact ⟨rfl, HB7.out⟩
end Go.Proofs.Ytkjfemkmooepnaa.Giv
