/- The structs of the laws' parameters as told values. -/
import Derived.Test.YtcjlnaplkodgpaaCmLaw
import Derived.Test.YtcjlnaplkodgpaaCmTab
namespace Go.Proofs.Ytcjlnaplkodgpaa.Cm
open Go.RowKit
set_option linter.unusedVariables false
structure S28 where
  f0 : Int
  f1 : Int
  f2 : Int
  f3 : (List Int)
def e28 (x : S28) : List DV := [DV.sc (.int .i64 x.f0), DV.sc (.int .i64 x.f1), DV.sc (.int .i64 x.f2), DV.imm (bytesD x.f3)]
def w28 (x : S28) : Prop := (Lit.int .i64 x.f0).wf = true ∧ (Lit.int .i64 x.f1).wf = true ∧ (Lit.int .i64 x.f2).wf = true ∧ (x.f3.length ≤ maxLen ∧ ∀ y_ ∈ x.f3, (Lit.int .u8 y_).wf = true)
theorem opn28 : OpensC Try.prog 28 e28 w28 := opensC_struct (n := 4) Try.underlying28 (by kernel_rfl) (opensFC_cons (n := 1) (n' := 3) rfl (by kernel_rfl) (opensC_int Try.underlying3 (by kernel_rfl)) rfl (opensFC_cons (n := 1) (n' := 2) rfl (by kernel_rfl) (opensC_int Try.underlying3 (by kernel_rfl)) rfl (opensFC_cons (n := 1) (n' := 1) rfl (by kernel_rfl) (opensC_int Try.underlying3 (by kernel_rfl)) rfl (opensFC_one rfl (by kernel_rfl) (opensC_slice Try.underlying26 (by kernel_rfl) (Nat.lt_of_lt_of_eq (show 0 < 1 by decide) (by kernel_rfl)) (opensC_int Try.underlying5 (by kernel_rfl)))) (by decide)) (by decide)) (by decide)) e28 w28 (fun p : Int × Int × Int × (List Int) => ⟨p.1, p.2.1, p.2.2.1, p.2.2.2⟩) (fun _ => rfl) (fun _ h => h) (fun _ => rfl)
structure S43 where
  f0 : Int
  f1 : S28
  f2 : Int
def e43 (x : S43) : List DV := [DV.sc (.int .u8 x.f0), DV.sc (.int .i64 x.f1.f0), DV.sc (.int .i64 x.f1.f1), DV.sc (.int .i64 x.f1.f2), DV.imm (bytesD x.f1.f3), DV.sc (.int .i64 x.f2)]
def w43 (x : S43) : Prop := (Lit.int .u8 x.f0).wf = true ∧ w28 x.f1 ∧ (Lit.int .i64 x.f2).wf = true
theorem opn43 : OpensC Try.prog 43 e43 w43 := opensC_struct (n := 6) Try.underlying43 (by kernel_rfl) (opensFC_cons (n := 1) (n' := 5) rfl (by kernel_rfl) (opensC_int Try.underlying5 (by kernel_rfl)) rfl (opensFC_cons (n := 4) (n' := 1) rfl (by kernel_rfl) opn28 rfl (opensFC_one rfl (by kernel_rfl) (opensC_int Try.underlying3 (by kernel_rfl))) (by decide)) (by decide)) e43 w43 (fun p : Int × S28 × Int => ⟨p.1, p.2.1, p.2.2⟩) (fun _ => rfl) (fun _ h => h) (fun _ => rfl)
end Go.Proofs.Ytcjlnaplkodgpaa.Cm
