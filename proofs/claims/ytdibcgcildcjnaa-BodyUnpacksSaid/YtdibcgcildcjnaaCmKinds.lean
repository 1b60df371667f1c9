/- The structs of the laws' parameters as told values. -/
import Derived.Test.YtdibcgcildcjnaaCmLaw
import Derived.Test.YtdibcgcildcjnaaCmTab
namespace Go.Proofs.Ytdibcgcildcjnaa.Cm
open Go.RowKit
set_option linter.unusedVariables false
structure S26 where
  f0 : Int
  f1 : Int
  f2 : Int
  f3 : Int
  f4 : Int
  f5 : Int
def e26 (x : S26) : List DV := [DV.sc (.int .u64 x.f0), DV.sc (.int .i64 x.f1), DV.sc (.int .i64 x.f2), DV.sc (.int .u32 x.f3), DV.sc (.int .u32 x.f4), DV.sc (.int .u32 x.f5)]
def w26 (x : S26) : Prop := (Lit.int .u64 x.f0).wf = true ∧ (Lit.int .i64 x.f1).wf = true ∧ (Lit.int .i64 x.f2).wf = true ∧ (Lit.int .u32 x.f3).wf = true ∧ (Lit.int .u32 x.f4).wf = true ∧ (Lit.int .u32 x.f5).wf = true
theorem opn26 : OpensC Try.prog 26 e26 w26 := opensC_struct (n := 6) Try.underlying26 (by kernel_rfl) (opensFC_cons (n := 1) (n' := 5) rfl (by kernel_rfl) (opensC_int Try.underlying22 (by kernel_rfl)) rfl (opensFC_cons (n := 1) (n' := 4) rfl (by kernel_rfl) (opensC_int Try.underlying3 (by kernel_rfl)) rfl (opensFC_cons (n := 1) (n' := 3) rfl (by kernel_rfl) (opensC_int Try.underlying3 (by kernel_rfl)) rfl (opensFC_cons (n := 1) (n' := 2) rfl (by kernel_rfl) (opensC_int Try.underlying24 (by kernel_rfl)) rfl (opensFC_cons (n := 1) (n' := 1) rfl (by kernel_rfl) (opensC_int Try.underlying24 (by kernel_rfl)) rfl (opensFC_one rfl (by kernel_rfl) (opensC_int Try.underlying24 (by kernel_rfl))) (by decide)) (by decide)) (by decide)) (by decide)) (by decide)) e26 w26 (fun p : Int × Int × Int × Int × Int × Int => ⟨p.1, p.2.1, p.2.2.1, p.2.2.2.1, p.2.2.2.2.1, p.2.2.2.2.2⟩) (fun _ => rfl) (fun _ h => h) (fun _ => rfl)
structure S28 where
  f0 : Int
  f1 : Int
  f2 : Int
  f3 : Int
  f4 : Int
  f5 : (List Int)
  f6 : S26
def e28 (x : S28) : List DV := [DV.sc (.int .i64 x.f0), DV.sc (.int .i64 x.f1), DV.sc (.int .i64 x.f2), DV.sc (.int .i64 x.f3), DV.sc (.int .u64 x.f4), DV.imm (x.f5.map (fun n : Int => [DV.sc (.int .i64 n)])), DV.sc (.int .u64 x.f6.f0), DV.sc (.int .i64 x.f6.f1), DV.sc (.int .i64 x.f6.f2), DV.sc (.int .u32 x.f6.f3), DV.sc (.int .u32 x.f6.f4), DV.sc (.int .u32 x.f6.f5)]
def w28 (x : S28) : Prop := (Lit.int .i64 x.f0).wf = true ∧ (Lit.int .i64 x.f1).wf = true ∧ (Lit.int .i64 x.f2).wf = true ∧ (Lit.int .i64 x.f3).wf = true ∧ (Lit.int .u64 x.f4).wf = true ∧ (x.f5.length ≤ maxLen ∧ ∀ y_ ∈ x.f5, (Lit.int .i64 y_).wf = true) ∧ w26 x.f6
theorem opn28 : OpensC Try.prog 28 e28 w28 := opensC_struct (n := 12) Try.underlying28 (by kernel_rfl) (opensFC_cons (n := 1) (n' := 11) rfl (by kernel_rfl) (opensC_int Try.underlying3 (by kernel_rfl)) rfl (opensFC_cons (n := 1) (n' := 10) rfl (by kernel_rfl) (opensC_int Try.underlying3 (by kernel_rfl)) rfl (opensFC_cons (n := 1) (n' := 9) rfl (by kernel_rfl) (opensC_int Try.underlying3 (by kernel_rfl)) rfl (opensFC_cons (n := 1) (n' := 8) rfl (by kernel_rfl) (opensC_int Try.underlying3 (by kernel_rfl)) rfl (opensFC_cons (n := 1) (n' := 7) rfl (by kernel_rfl) (opensC_int Try.underlying22 (by kernel_rfl)) rfl (opensFC_cons (n := 1) (n' := 6) rfl (by kernel_rfl) (opensC_slice Try.underlying23 (by kernel_rfl) (Nat.lt_of_lt_of_eq (show 0 < 1 by decide) (by kernel_rfl)) (opensC_int Try.underlying3 (by kernel_rfl))) rfl (opensFC_one rfl (by kernel_rfl) opn26) (by decide)) (by decide)) (by decide)) (by decide)) (by decide)) (by decide)) e28 w28 (fun p : Int × Int × Int × Int × Int × (List Int) × S26 => ⟨p.1, p.2.1, p.2.2.1, p.2.2.2.1, p.2.2.2.2.1, p.2.2.2.2.2.1, p.2.2.2.2.2.2⟩) (fun _ => rfl) (fun _ h => h) (fun _ => rfl)
structure S38 where
  f0 : Int
  f1 : Int
  f2 : (List Int)
def e38 (x : S38) : List DV := [DV.sc (.int .i64 x.f0), DV.sc (.int .i64 x.f1), DV.imm (bytesD x.f2)]
def w38 (x : S38) : Prop := (Lit.int .i64 x.f0).wf = true ∧ (Lit.int .i64 x.f1).wf = true ∧ (x.f2.length ≤ maxLen ∧ ∀ y_ ∈ x.f2, (Lit.int .u8 y_).wf = true)
theorem opn38 : OpensC Try.prog 38 e38 w38 := opensC_struct (n := 3) Try.underlying38 (by kernel_rfl) (opensFC_cons (n := 1) (n' := 2) rfl (by kernel_rfl) (opensC_int Try.underlying3 (by kernel_rfl)) rfl (opensFC_cons (n := 1) (n' := 1) rfl (by kernel_rfl) (opensC_int Try.underlying3 (by kernel_rfl)) rfl (opensFC_one rfl (by kernel_rfl) (opensC_slice Try.underlying30 (by kernel_rfl) (Nat.lt_of_lt_of_eq (show 0 < 1 by decide) (by kernel_rfl)) (opensC_int Try.underlying5 (by kernel_rfl)))) (by decide)) (by decide)) e38 w38 (fun p : Int × Int × (List Int) => ⟨p.1, p.2.1, p.2.2⟩) (fun _ => rfl) (fun _ h => h) (fun _ => rfl)
end Go.Proofs.Ytdibcgcildcjnaa.Cm
