/- The structs of the laws' parameters as told values. -/
import Derived.Test.YthfdmcmjlkinaaaCmLaw
import Derived.Test.YthfdmcmjlkinaaaCmTab
namespace Go.Proofs.Ythfdmcmjlkinaaa.Cm
open Go.RowKit
set_option linter.unusedVariables false
structure S45 where
  f0 : Int
  f1 : Int
  f2 : (List Int)
def e45 (x : S45) : List DV := [DV.sc (.int .i64 x.f0), DV.sc (.int .i64 x.f1), DV.imm (bytesD x.f2)]
def w45 (x : S45) : Prop := (Lit.int .i64 x.f0).wf = true ∧ (Lit.int .i64 x.f1).wf = true ∧ (x.f2.length ≤ maxLen ∧ ∀ y_ ∈ x.f2, (Lit.int .u8 y_).wf = true)
theorem opn45 : OpensC Try.prog 45 e45 w45 := opensC_struct (n := 3) Try.underlying45 (by kernel_rfl) (opensFC_cons (n := 1) (n' := 2) rfl (by kernel_rfl) (opensC_int Try.underlying3 (by kernel_rfl)) rfl (opensFC_cons (n := 1) (n' := 1) rfl (by kernel_rfl) (opensC_int Try.underlying3 (by kernel_rfl)) rfl (opensFC_one rfl (by kernel_rfl) (opensC_slice Try.underlying25 (by kernel_rfl) (Nat.lt_of_lt_of_eq (show 0 < 1 by decide) (by kernel_rfl)) (opensC_int Try.underlying5 (by kernel_rfl)))) (by decide)) (by decide)) e45 w45 (fun p : Int × Int × (List Int) => ⟨p.1, p.2.1, p.2.2⟩) (fun _ => rfl) (fun _ h => h) (fun _ => rfl)
end Go.Proofs.Ythfdmcmjlkinaaa.Cm
