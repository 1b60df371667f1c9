/- The structs of the laws' parameters as told values. -/
import Derived.Test.YtpigelcckiejiaaCmLaw
import Derived.Test.YtpigelcckiejiaaCmTab
namespace Go.Proofs.Ytpigelcckiejiaa.Cm
open Go.RowKit
set_option linter.unusedVariables false
structure S43 where
  f0 : Int
  f1 : Int
  f2 : Int
  f3 : Int
  f4 : Int
def e43 (x : S43) : List DV := [DV.sc (.int .i64 x.f0), DV.sc (.int .i64 x.f1), DV.sc (.int .u64 x.f2), DV.sc (.int .i64 x.f3), DV.sc (.int .u32 x.f4)]
def w43 (x : S43) : Prop := (Lit.int .i64 x.f0).wf = true ∧ (Lit.int .i64 x.f1).wf = true ∧ (Lit.int .u64 x.f2).wf = true ∧ (Lit.int .i64 x.f3).wf = true ∧ (Lit.int .u32 x.f4).wf = true
theorem opn43 : OpensC Try.prog 43 e43 w43 := opensC_struct (n := 5) Try.underlying43 (by kernel_rfl) (opensFC_cons (n := 1) (n' := 4) rfl (by kernel_rfl) (opensC_int Try.underlying3 (by kernel_rfl)) rfl (opensFC_cons (n := 1) (n' := 3) rfl (by kernel_rfl) (opensC_int Try.underlying3 (by kernel_rfl)) rfl (opensFC_cons (n := 1) (n' := 2) rfl (by kernel_rfl) (opensC_int Try.underlying40 (by kernel_rfl)) rfl (opensFC_cons (n := 1) (n' := 1) rfl (by kernel_rfl) (opensC_int Try.underlying3 (by kernel_rfl)) rfl (opensFC_one rfl (by kernel_rfl) (opensC_int Try.underlying41 (by kernel_rfl))) (by decide)) (by decide)) (by decide)) (by decide)) e43 w43 (fun p : Int × Int × Int × Int × Int => ⟨p.1, p.2.1, p.2.2.1, p.2.2.2.1, p.2.2.2.2⟩) (fun _ => rfl) (fun _ h => h) (fun _ => rfl)
structure S36 where
  f0 : Int
  f1 : (List S43)
def e36 (x : S36) : List DV := [DV.sc (.int .i64 x.f0), DV.imm (x.f1.map e43)]
def w36 (x : S36) : Prop := (Lit.int .i64 x.f0).wf = true ∧ (x.f1.length ≤ maxLen ∧ ∀ y_ ∈ x.f1, w43 y_)
theorem opn36 : OpensC Try.prog 36 e36 w36 := opensC_struct (n := 2) Try.underlying36 (by kernel_rfl) (opensFC_cons (n := 1) (n' := 1) rfl (by kernel_rfl) (opensC_int Try.underlying3 (by kernel_rfl)) rfl (opensFC_one rfl (by kernel_rfl) (opensC_slice Try.underlying22 (by kernel_rfl) (Nat.lt_of_lt_of_eq (show 0 < 5 by decide) (by kernel_rfl)) opn43)) (by decide)) e36 w36 (fun p : Int × (List S43) => ⟨p.1, p.2⟩) (fun _ => rfl) (fun _ h => h) (fun _ => rfl)
structure A45 where
  f0 : Int
  f1 : Int
def e45 (x : A45) : List DV := [DV.sc (.int .i64 x.f0), DV.sc (.int .i64 x.f1)]
def w45 (x : A45) : Prop := (Lit.int .i64 x.f0).wf = true ∧ (Lit.int .i64 x.f1).wf = true
theorem opn45 : OpensC Try.prog 45 e45 w45 := opensC_array (n := 2) Try.underlying45 (by kernel_rfl) (by kernel_rfl) (opensAC_cons (opensC_int Try.underlying3 (by kernel_rfl)) (opensAC_one (opensC_int Try.underlying3 (by kernel_rfl)))) e45 w45 (fun p : Int × Int => ⟨p.1, p.2⟩) (fun _ => rfl) (fun _ h => h) (fun _ => rfl)
end Go.Proofs.Ytpigelcckiejiaa.Cm
