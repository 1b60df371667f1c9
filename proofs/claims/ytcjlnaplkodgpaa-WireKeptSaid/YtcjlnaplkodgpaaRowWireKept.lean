/- The law WireKept answers true at every input, and its arguments read behind it as before. No condition. -/
import Derived.Test.YtcjlnaplkodgpaaRows
import Derived.Test.YtcjlnaplkodgpaaKept2
import Derived.Test.YtcjlnaplkodgpaaCmKinds
import Derived.Test.YtcjlnaplkodgpaaWMore
import Derived.WalkKit
import Derived.ProofKit
import Derived.OpenShut
import Derived.ShutString
import Derived.ChangeOld
import Derived.Below
import Derived.SizedLaws
import Derived.Test.YtcjlnaplkodgpaaWSized
namespace Go.Proofs.Ytcjlnaplkodgpaa.wireKept
open Go.ChangeShapes Go.WideShapes Go.ChangeAt Go.RowKit Go.Proofs.YtcjlnaplkodgpaaW Go.Proofs.YtcjlnaplkodgpaaW.PrintWords Go.Proofs.YtcjlnaplkodgpaaW.PrintLast Go.Proofs.YtcjlnaplkodgpaaW.PrintMore Go.Proofs.Ytcjlnaplkodgpaa Go.Proofs.Ytcjlnaplkodgpaa.Cm
open Go.ChangeMaps (open_string shut_string)
set_option linter.unusedVariables false
theorem own : ownKnob Try.prog.godebug = none := by kernel_rfl
theorem laidOut : laidOutB Try.prog = true := by kernel_rfl
set_option maxRecDepth 100000 in
theorem lifted (os : Os) (started : os.Started) (H : Type) (enc : TypeId × Value → H) :
    ReturnsInHanded {} Try.checked os 5 .any (Rows.wireKeptSpec.pre6 enc Try.prog Try.f5 Rows.wireKeptRow.domain false) (Rows.wireKeptSpec.post enc Try.prog Try.f5 false true false false) := by
  refine returnsInHanded_of_change_sized (C := Try.checked) own started (by kernel_rfl) Try.func5
    (ChangeSpec.witness6 (enc := enc) (C := Try.checked) false ⟨#[], #[.int .u8 0, .slice none 0 0], []⟩ 8 (by kernel_rfl) (by kernel_rfl) (by kernel_rfl) (by kernel_rfl)) ?_
  intro W base args ds gs before hval0 hW hcnd hsz0 _
  have hsz : (DataW.weightsEach Try.prog (Try.f5.params.toList ++ Rows.wireKeptSpec.plain.varTypes Try.prog) (ds ++ gs)).all (· ≤ reachBytes) = true := hsz0
  have hval : ∀ (j : Nat) t v, Try.f5.params[j]? = some t → args[j]? = some v → Value.okWide Try.prog W .any base t v := hval0
  have hW' := hW
  obtain ⟨p, q, hA0, hV, rfl, hfz, hnd⟩ := hW
  have hA : DataW.TrodAll enc Try.prog W 0 (fun _ => true) true Try.f5.params.toList args.toList ds p := hA0
  rw [Try.params5] at hA hval hsz
  obtain ⟨v0, vs0, d0, ds0, p0, q0, hargs, rfl, rfl, h0, r0⟩ := trodAll_cons hA
  obtain ⟨v1, vs1, d1, ds1, p1, q1, rfl, rfl, rfl, h1, r1⟩ := trodAll_cons r0
  obtain ⟨rfl, rfl, rfl⟩ := trodAll_nil r1
  obtain rfl : args = #[v0, v1] := by cases args; simp_all
  obtain ⟨rfl, rfl⟩ := trodVars_none hV
  have hZ0 : ∀ b, b < (Cm.start W).w.heap.size → (Cm.start W).Z b := fun _ h => h
  obtain ⟨a0, rfl, rfl, rfl, w0⟩ := open_int Try.underlying5 (hval 0 5 v0 rfl rfl) h0
  have hC0 : V (Cm.start W) (.sc (.int .u8 a0)) (.int .u8 a0) := .sc rfl
  obtain ⟨a1, len1, cap1, rfl⟩ := okWide_slice Try.underlying39 (hval 1 39 v1 rfl rfl)
  have k1 := h1
  have lt1 : ∀ x ∈ p1, x.block < W.heap.size := by obtain ⟨m, hm⟩ := k1; exact DataW.trod_lt m _ _ _ hm
  obtain ⟨l1, e1, hm1, hC1, hw1⟩ := open_argC (c := Cm.start W) hZ0 Try.underlying39 (Nat.lt_of_lt_of_eq (show 0 < 6 by decide) (by kernel_rfl)) opn43 h1
  subst e1
  clear hA0 hval0 hsz0 hsz
  refine (law_calls (kept_ok a0 l1 w0 ⟨hm1, hw1⟩) (VL.cons hC0 (VL.cons hC1 (VL.nil _)))).mono fun e W' ⟨he, bel⟩ => ?_
  subst he
  exact ⟨_, rfl, _, _, _, [], _, [], hW', trodAll_mk1 (shut_bool Try.underlying4 _), (trodAll_cons_mk (shut_int Try.underlying5 w0) (trodAll_cons_mk (Below.trod laidOut (by kernel_rfl) (of_decide_eq_true (by kernel_rfl)) k1 bel lt1) trodAll_mk0)), rfl, bel.frame _, fun h => by cases h⟩
theorem over : Rows.wireKeptRow.holds Try.pinned (OpenSpec.ofChange Rows.wireKeptSpec) :=
  OpenClaim.holds_of_wide 5 Try.f5 rfl rfl rfl rfl rfl rfl rfl ⟨rfl, rfl, rfl, rfl, rfl⟩ rfl rfl rfl rfl rfl (by kernel_rfl) Try.func5 (by kernel_rfl)
    (of_decide_eq_true (by kernel_rfl)) (by unfold Func.isWrapper; first | (rw [if_pos (by decide +kernel)]; kernel_rfl) | (rw [if_neg (by decide +kernel)]; exact ⟨rfl, rfl⟩))
    (fun os started H enc _ => lifted os started H enc)
theorem proved : Rows.WireKeptSaid := over
#print axioms proved
end Go.Proofs.Ytcjlnaplkodgpaa.wireKept
namespace Go.Proofs.Ytcjlnaplkodgpaa
/-- The row, under a short name, for the claim. -/
theorem wireKept_holds : Rows.WireKeptSaid := wireKept.proved
end Go.Proofs.Ytcjlnaplkodgpaa
