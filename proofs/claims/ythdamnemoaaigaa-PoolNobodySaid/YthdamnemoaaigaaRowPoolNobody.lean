/- The law PoolNobody answers true at every input, and its arguments read behind it as before. No condition. -/
import Derived.Test.YthdamnemoaaigaaRows
import Derived.Test.YthdamnemoaaigaaPoolC
import Derived.Test.YthdamnemoaaigaaCmKinds
import Derived.Test.YthdamnemoaaigaaWMore
import Derived.WalkKit
import Derived.ProofKit
import Derived.OpenShut
import Derived.ShutString
import Derived.ChangeOld
import Derived.Below
import Derived.SizedLaws
import Derived.Test.YthdamnemoaaigaaWSized
namespace Go.Proofs.Ythdamnemoaaigaa.poolNobody
open Go.ChangeShapes Go.WideShapes Go.ChangeAt Go.RowKit Go.Proofs.YthdamnemoaaigaaW Go.Proofs.YthdamnemoaaigaaW.PrintWords Go.Proofs.YthdamnemoaaigaaW.PrintLast Go.Proofs.YthdamnemoaaigaaW.PrintMore Go.Proofs.Ythdamnemoaaigaa Go.Proofs.Ythdamnemoaaigaa.Cm
open Go.ChangeMaps (open_string shut_string)
set_option linter.unusedVariables false
theorem own : ownKnob Try.prog.godebug = none := by kernel_rfl
theorem laidOut : laidOutB Try.prog = true := by kernel_rfl
set_option maxRecDepth 100000 in
theorem lifted (os : Os) (started : os.Started) (H : Type) (enc : TypeId × Value → H) :
    ReturnsInHanded {} Try.checked os 7 .any (Rows.poolNobodySpec.pre6 enc Try.prog Try.f7 Rows.poolNobodyRow.domain false) (Rows.poolNobodySpec.post enc Try.prog Try.f7 false true false false) := by
  refine returnsInHanded_of_change_sized (C := Try.checked) own started (by kernel_rfl) Try.func7
    (ChangeSpec.witness6 (enc := enc) (C := Try.checked) false ⟨#[], #[.slice none 0 0], []⟩ 8 (by kernel_rfl) (by kernel_rfl) (by kernel_rfl) (by kernel_rfl)) ?_
  intro W base args ds gs before hval0 hW hcnd hsz0 _
  have hsz : (DataW.weightsEach Try.prog (Try.f7.params.toList ++ Rows.poolNobodySpec.plain.varTypes Try.prog) (ds ++ gs)).all (· ≤ reachBytes) = true := hsz0
  have hval : ∀ (j : Nat) t v, Try.f7.params[j]? = some t → args[j]? = some v → Value.okWide Try.prog W .any base t v := hval0
  have hW' := hW
  obtain ⟨p, q, hA0, hV, rfl, hfz, hnd⟩ := hW
  have hA : DataW.TrodAll enc Try.prog W 0 (fun _ => true) true Try.f7.params.toList args.toList ds p := hA0
  rw [Try.params7] at hA hval hsz
  obtain ⟨v0, vs0, d0, ds0, p0, q0, hargs, rfl, rfl, h0, r0⟩ := trodAll_cons hA
  obtain ⟨rfl, rfl, rfl⟩ := trodAll_nil r0
  obtain rfl : args = #[v0] := by cases args; simp_all
  obtain ⟨rfl, rfl⟩ := trodVars_none hV
  have hZ0 : ∀ b, b < (Cm.start W).w.heap.size → (Cm.start W).Z b := fun _ h => h
  obtain ⟨a0, len0, cap0, rfl⟩ := okWide_slice Try.underlying22 (hval 0 22 v0 rfl rfl)
  have k0 := h0
  have lt0 : ∀ x ∈ p0, x.block < W.heap.size := by obtain ⟨m, hm⟩ := k0; exact DataW.trod_lt m _ _ _ hm
  obtain ⟨l0, e0, hm0, hC0, hw0⟩ := open_argC (c := Cm.start W) hZ0 Try.underlying22 (Nat.lt_of_lt_of_eq (show 0 < 3 by decide) (by kernel_rfl)) opn32 h0
  subst e0
  clear hA0 hval0 hsz0 hsz
  refine (law_calls (nobody_ok l0 ⟨hm0, hw0⟩) (VL.cons hC0 (VL.nil _))).mono fun e W' ⟨he, bel⟩ => ?_
  subst he
  exact ⟨_, rfl, _, _, _, [], _, [], hW', trodAll_mk1 (shut_bool Try.underlying4 _), (trodAll_cons_mk (Below.trod laidOut (by kernel_rfl) (of_decide_eq_true (by kernel_rfl)) k0 bel lt0) trodAll_mk0), rfl, bel.frame _, fun h => by cases h⟩
theorem over : Rows.poolNobodyRow.holds Try.pinned (OpenSpec.ofChange Rows.poolNobodySpec) :=
  OpenClaim.holds_of_wide 7 Try.f7 rfl rfl rfl rfl rfl rfl rfl ⟨rfl, rfl, rfl, rfl, rfl⟩ rfl rfl rfl rfl rfl (by kernel_rfl) Try.func7 (by kernel_rfl)
    (of_decide_eq_true (by kernel_rfl)) (by unfold Func.isWrapper; first | (rw [if_pos (by decide +kernel)]; kernel_rfl) | (rw [if_neg (by decide +kernel)]; exact ⟨rfl, rfl⟩))
    (fun os started H enc _ => lifted os started H enc)
theorem proved : Rows.PoolNobodySaid := over
#print axioms proved
end Go.Proofs.Ythdamnemoaaigaa.poolNobody
namespace Go.Proofs.Ythdamnemoaaigaa
/-- The row, under a short name, for the claim. -/
theorem poolNobody_holds : Rows.PoolNobodySaid := poolNobody.proved
end Go.Proofs.Ythdamnemoaaigaa
