/- The structs of the laws' parameters as told values. -/
import Derived.Test.YtkcccomdamdocaaCmLaw
import Derived.Test.YtkcccomdamdocaaCmTab
namespace Go.Proofs.Ytkcccomdamdocaa.Cm
open Go.RowKit
set_option linter.unusedVariables false
structure S37 where
  f0 : Int
  f1 : Int
  f2 : Int
  f3 : Int
  f4 : Int
def e37 (x : S37) : List DV := [DV.sc (.int .i64 x.f0), DV.sc (.int .i64 x.f1), DV.sc (.int .u64 x.f2), DV.sc (.int .i64 x.f3), DV.sc (.int .u32 x.f4)]
def w37 (x : S37) : Prop := (Lit.int .i64 x.f0).wf = true ∧ (Lit.int .i64 x.f1).wf = true ∧ (Lit.int .u64 x.f2).wf = true ∧ (Lit.int .i64 x.f3).wf = true ∧ (Lit.int .u32 x.f4).wf = true
theorem opn37 : OpensC Try.prog 37 e37 w37 := opensC_struct (n := 5) Try.underlying37 (by kernel_rfl) (opensFC_cons (n := 1) (n' := 4) rfl (by kernel_rfl) (opensC_int Try.underlying3 (by kernel_rfl)) rfl (opensFC_cons (n := 1) (n' := 3) rfl (by kernel_rfl) (opensC_int Try.underlying3 (by kernel_rfl)) rfl (opensFC_cons (n := 1) (n' := 2) rfl (by kernel_rfl) (opensC_int Try.underlying34 (by kernel_rfl)) rfl (opensFC_cons (n := 1) (n' := 1) rfl (by kernel_rfl) (opensC_int Try.underlying3 (by kernel_rfl)) rfl (opensFC_one rfl (by kernel_rfl) (opensC_int Try.underlying35 (by kernel_rfl))) (by decide)) (by decide)) (by decide)) (by decide)) e37 w37 (fun p : Int × Int × Int × Int × Int => ⟨p.1, p.2.1, p.2.2.1, p.2.2.2.1, p.2.2.2.2⟩) (fun _ => rfl) (fun _ h => h) (fun _ => rfl)
structure S24 where
  f0 : Int
  f1 : (List S37)
def e24 (x : S24) : List DV := [DV.sc (.int .i64 x.f0), DV.imm (x.f1.map e37)]
def w24 (x : S24) : Prop := (Lit.int .i64 x.f0).wf = true ∧ (x.f1.length ≤ maxLen ∧ ∀ y_ ∈ x.f1, w37 y_)
theorem opn24 : OpensC Try.prog 24 e24 w24 := opensC_struct (n := 2) Try.underlying24 (by kernel_rfl) (opensFC_cons (n := 1) (n' := 1) rfl (by kernel_rfl) (opensC_int Try.underlying3 (by kernel_rfl)) rfl (opensFC_one rfl (by kernel_rfl) (opensC_slice Try.underlying22 (by kernel_rfl) (Nat.lt_of_lt_of_eq (show 0 < 5 by decide) (by kernel_rfl)) opn37)) (by decide)) e24 w24 (fun p : Int × (List S37) => ⟨p.1, p.2⟩) (fun _ => rfl) (fun _ h => h) (fun _ => rfl)
structure A38 where
  f0 : Int
  f1 : Int
  f2 : Int
  f3 : Int
  f4 : Int
  f5 : Int
  f6 : Int
  f7 : Int
def e38 (x : A38) : List DV := [DV.sc (.int .u64 x.f0), DV.sc (.int .u64 x.f1), DV.sc (.int .u64 x.f2), DV.sc (.int .u64 x.f3), DV.sc (.int .u64 x.f4), DV.sc (.int .u64 x.f5), DV.sc (.int .u64 x.f6), DV.sc (.int .u64 x.f7)]
def w38 (x : A38) : Prop := (Lit.int .u64 x.f0).wf = true ∧ (Lit.int .u64 x.f1).wf = true ∧ (Lit.int .u64 x.f2).wf = true ∧ (Lit.int .u64 x.f3).wf = true ∧ (Lit.int .u64 x.f4).wf = true ∧ (Lit.int .u64 x.f5).wf = true ∧ (Lit.int .u64 x.f6).wf = true ∧ (Lit.int .u64 x.f7).wf = true
theorem opn38 : OpensC Try.prog 38 e38 w38 := opensC_array (n := 8) Try.underlying38 (by kernel_rfl) (by kernel_rfl) (opensAC_cons (opensC_int Try.underlying34 (by kernel_rfl)) (opensAC_cons (opensC_int Try.underlying34 (by kernel_rfl)) (opensAC_cons (opensC_int Try.underlying34 (by kernel_rfl)) (opensAC_cons (opensC_int Try.underlying34 (by kernel_rfl)) (opensAC_cons (opensC_int Try.underlying34 (by kernel_rfl)) (opensAC_cons (opensC_int Try.underlying34 (by kernel_rfl)) (opensAC_cons (opensC_int Try.underlying34 (by kernel_rfl)) (opensAC_one (opensC_int Try.underlying34 (by kernel_rfl)))))))))) e38 w38 (fun p : Int × Int × Int × Int × Int × Int × Int × Int => ⟨p.1, p.2.1, p.2.2.1, p.2.2.2.1, p.2.2.2.2.1, p.2.2.2.2.2.1, p.2.2.2.2.2.2.1, p.2.2.2.2.2.2.2⟩) (fun _ => rfl) (fun _ h => h) (fun _ => rfl)
structure S42 where
  f0 : S37
  f1 : Int
  f2 : Bool
  f3 : A38
def e42 (x : S42) : List DV := [DV.sc (.int .i64 x.f0.f0), DV.sc (.int .i64 x.f0.f1), DV.sc (.int .u64 x.f0.f2), DV.sc (.int .i64 x.f0.f3), DV.sc (.int .u32 x.f0.f4), DV.sc (.int .i64 x.f1), DV.sc (.bool x.f2), DV.sc (.int .u64 x.f3.f0), DV.sc (.int .u64 x.f3.f1), DV.sc (.int .u64 x.f3.f2), DV.sc (.int .u64 x.f3.f3), DV.sc (.int .u64 x.f3.f4), DV.sc (.int .u64 x.f3.f5), DV.sc (.int .u64 x.f3.f6), DV.sc (.int .u64 x.f3.f7)]
def w42 (x : S42) : Prop := w37 x.f0 ∧ (Lit.int .i64 x.f1).wf = true ∧ True ∧ w38 x.f3
theorem opn42 : OpensC Try.prog 42 e42 w42 := opensC_struct (n := 15) Try.underlying42 (by kernel_rfl) (opensFC_cons (n := 5) (n' := 10) rfl (by kernel_rfl) opn37 rfl (opensFC_cons (n := 1) (n' := 9) rfl (by kernel_rfl) (opensC_int Try.underlying3 (by kernel_rfl)) rfl (opensFC_cons (n := 1) (n' := 8) rfl (by kernel_rfl) (opensC_bool Try.underlying4 (by kernel_rfl)) rfl (opensFC_one rfl (by kernel_rfl) opn38) (by decide)) (by decide)) (by decide)) e42 w42 (fun p : S37 × Int × Bool × A38 => ⟨p.1, p.2.1, p.2.2.1, p.2.2.2⟩) (fun _ => rfl) (fun _ h => h) (fun _ => rfl)
end Go.Proofs.Ytkcccomdamdocaa.Cm
