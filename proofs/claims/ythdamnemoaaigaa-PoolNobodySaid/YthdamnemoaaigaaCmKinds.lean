/- The structs of the laws' parameters as told values. -/
import Derived.Test.YthdamnemoaaigaaCmLaw
import Derived.Test.YthdamnemoaaigaaCmTab
namespace Go.Proofs.Ythdamnemoaaigaa.Cm
open Go.RowKit
set_option linter.unusedVariables false
structure S32 where
  f0 : Bool
  f1 : Bool
  f2 : Int
def e32 (x : S32) : List DV := [DV.sc (.bool x.f0), DV.sc (.bool x.f1), DV.sc (.int .i64 x.f2)]
def w32 (x : S32) : Prop := True ∧ True ∧ (Lit.int .i64 x.f2).wf = true
theorem opn32 : OpensC Try.prog 32 e32 w32 := opensC_struct (n := 3) Try.underlying32 (by kernel_rfl) (opensFC_cons (n := 1) (n' := 2) rfl (by kernel_rfl) (opensC_bool Try.underlying4 (by kernel_rfl)) rfl (opensFC_cons (n := 1) (n' := 1) rfl (by kernel_rfl) (opensC_bool Try.underlying4 (by kernel_rfl)) rfl (opensFC_one rfl (by kernel_rfl) (opensC_int Try.underlying3 (by kernel_rfl))) (by decide)) (by decide)) e32 w32 (fun p : Bool × Bool × Int => ⟨p.1, p.2.1, p.2.2⟩) (fun _ => rfl) (fun _ h => h) (fun _ => rfl)
end Go.Proofs.Ythdamnemoaaigaa.Cm
