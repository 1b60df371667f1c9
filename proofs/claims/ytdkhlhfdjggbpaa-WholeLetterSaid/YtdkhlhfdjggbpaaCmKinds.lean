/- The structs of the laws' parameters as told values. -/
import Derived.Test.YtdkhlhfdjggbpaaCmLaw
import Derived.Test.YtdkhlhfdjggbpaaCmTab
namespace Go.Proofs.Ytdkhlhfdjggbpaa.Cm
open Go.RowKit
set_option linter.unusedVariables false
structure S34 where
  f0 : Int
  f1 : Int
  f2 : Int
  f3 : Int
def e34 (x : S34) : List DV := [DV.sc (.int .i64 x.f0), DV.sc (.int .i64 x.f1), DV.sc (.int .i64 x.f2), DV.sc (.int .i64 x.f3)]
def w34 (x : S34) : Prop := (Lit.int .i64 x.f0).wf = true ∧ (Lit.int .i64 x.f1).wf = true ∧ (Lit.int .i64 x.f2).wf = true ∧ (Lit.int .i64 x.f3).wf = true
theorem opn34 : OpensC Try.prog 34 e34 w34 := opensC_struct (n := 4) Try.underlying34 (by kernel_rfl) (opensFC_cons (n := 1) (n' := 3) rfl (by kernel_rfl) (opensC_int Try.underlying3 (by kernel_rfl)) rfl (opensFC_cons (n := 1) (n' := 2) rfl (by kernel_rfl) (opensC_int Try.underlying3 (by kernel_rfl)) rfl (opensFC_cons (n := 1) (n' := 1) rfl (by kernel_rfl) (opensC_int Try.underlying3 (by kernel_rfl)) rfl (opensFC_one rfl (by kernel_rfl) (opensC_int Try.underlying3 (by kernel_rfl))) (by decide)) (by decide)) (by decide)) e34 w34 (fun p : Int × Int × Int × Int => ⟨p.1, p.2.1, p.2.2.1, p.2.2.2⟩) (fun _ => rfl) (fun _ h => h) (fun _ => rfl)
structure S38 where
  f0 : Int
  f1 : Int
  f2 : Int
  f3 : Int
  f4 : Int
  f5 : Int
def e38 (x : S38) : List DV := [DV.sc (.int .u64 x.f0), DV.sc (.int .i64 x.f1), DV.sc (.int .i64 x.f2), DV.sc (.int .u32 x.f3), DV.sc (.int .u32 x.f4), DV.sc (.int .u32 x.f5)]
def w38 (x : S38) : Prop := (Lit.int .u64 x.f0).wf = true ∧ (Lit.int .i64 x.f1).wf = true ∧ (Lit.int .i64 x.f2).wf = true ∧ (Lit.int .u32 x.f3).wf = true ∧ (Lit.int .u32 x.f4).wf = true ∧ (Lit.int .u32 x.f5).wf = true
theorem opn38 : OpensC Try.prog 38 e38 w38 := opensC_struct (n := 6) Try.underlying38 (by kernel_rfl) (opensFC_cons (n := 1) (n' := 5) rfl (by kernel_rfl) (opensC_int Try.underlying35 (by kernel_rfl)) rfl (opensFC_cons (n := 1) (n' := 4) rfl (by kernel_rfl) (opensC_int Try.underlying3 (by kernel_rfl)) rfl (opensFC_cons (n := 1) (n' := 3) rfl (by kernel_rfl) (opensC_int Try.underlying3 (by kernel_rfl)) rfl (opensFC_cons (n := 1) (n' := 2) rfl (by kernel_rfl) (opensC_int Try.underlying36 (by kernel_rfl)) rfl (opensFC_cons (n := 1) (n' := 1) rfl (by kernel_rfl) (opensC_int Try.underlying36 (by kernel_rfl)) rfl (opensFC_one rfl (by kernel_rfl) (opensC_int Try.underlying36 (by kernel_rfl))) (by decide)) (by decide)) (by decide)) (by decide)) (by decide)) e38 w38 (fun p : Int × Int × Int × Int × Int × Int => ⟨p.1, p.2.1, p.2.2.1, p.2.2.2.1, p.2.2.2.2.1, p.2.2.2.2.2⟩) (fun _ => rfl) (fun _ h => h) (fun _ => rfl)
structure S41 where
  f0 : Int
  f1 : Int
  f2 : S34
  f3 : Int
  f4 : Int
  f5 : Int
  f6 : S38
  f7 : (List Int)
  f8 : (List Int)
  f9 : Int
  f10 : Int
  f11 : Int
def e41 (x : S41) : List DV := [DV.sc (.int .i64 x.f0), DV.sc (.int .i64 x.f1), DV.sc (.int .i64 x.f2.f0), DV.sc (.int .i64 x.f2.f1), DV.sc (.int .i64 x.f2.f2), DV.sc (.int .i64 x.f2.f3), DV.sc (.int .i64 x.f3), DV.sc (.int .i64 x.f4), DV.sc (.int .i64 x.f5), DV.sc (.int .u64 x.f6.f0), DV.sc (.int .i64 x.f6.f1), DV.sc (.int .i64 x.f6.f2), DV.sc (.int .u32 x.f6.f3), DV.sc (.int .u32 x.f6.f4), DV.sc (.int .u32 x.f6.f5), DV.imm (x.f7.map (fun n : Int => [DV.sc (.int .i64 n)])), DV.imm (x.f8.map (fun n : Int => [DV.sc (.int .i64 n)])), DV.sc (.int .i64 x.f9), DV.sc (.int .i64 x.f10), DV.sc (.int .i64 x.f11)]
def w41 (x : S41) : Prop := (Lit.int .i64 x.f0).wf = true ∧ (Lit.int .i64 x.f1).wf = true ∧ w34 x.f2 ∧ (Lit.int .i64 x.f3).wf = true ∧ (Lit.int .i64 x.f4).wf = true ∧ (Lit.int .i64 x.f5).wf = true ∧ w38 x.f6 ∧ (x.f7.length ≤ maxLen ∧ ∀ y_ ∈ x.f7, (Lit.int .i64 y_).wf = true) ∧ (x.f8.length ≤ maxLen ∧ ∀ y_ ∈ x.f8, (Lit.int .i64 y_).wf = true) ∧ (Lit.int .i64 x.f9).wf = true ∧ (Lit.int .i64 x.f10).wf = true ∧ (Lit.int .i64 x.f11).wf = true
theorem opn41 : OpensC Try.prog 41 e41 w41 := opensC_struct (n := 20) Try.underlying41 (by kernel_rfl) (opensFC_cons (n := 1) (n' := 19) rfl (by kernel_rfl) (opensC_int Try.underlying3 (by kernel_rfl)) rfl (opensFC_cons (n := 1) (n' := 18) rfl (by kernel_rfl) (opensC_int Try.underlying3 (by kernel_rfl)) rfl (opensFC_cons (n := 4) (n' := 14) rfl (by kernel_rfl) opn34 rfl (opensFC_cons (n := 1) (n' := 13) rfl (by kernel_rfl) (opensC_int Try.underlying3 (by kernel_rfl)) rfl (opensFC_cons (n := 1) (n' := 12) rfl (by kernel_rfl) (opensC_int Try.underlying3 (by kernel_rfl)) rfl (opensFC_cons (n := 1) (n' := 11) rfl (by kernel_rfl) (opensC_int Try.underlying3 (by kernel_rfl)) rfl (opensFC_cons (n := 6) (n' := 5) rfl (by kernel_rfl) opn38 rfl (opensFC_cons (n := 1) (n' := 4) rfl (by kernel_rfl) (opensC_slice Try.underlying39 (by kernel_rfl) (Nat.lt_of_lt_of_eq (show 0 < 1 by decide) (by kernel_rfl)) (opensC_int Try.underlying3 (by kernel_rfl))) rfl (opensFC_cons (n := 1) (n' := 3) rfl (by kernel_rfl) (opensC_slice Try.underlying39 (by kernel_rfl) (Nat.lt_of_lt_of_eq (show 0 < 1 by decide) (by kernel_rfl)) (opensC_int Try.underlying3 (by kernel_rfl))) rfl (opensFC_cons (n := 1) (n' := 2) rfl (by kernel_rfl) (opensC_int Try.underlying3 (by kernel_rfl)) rfl (opensFC_cons (n := 1) (n' := 1) rfl (by kernel_rfl) (opensC_int Try.underlying3 (by kernel_rfl)) rfl (opensFC_one rfl (by kernel_rfl) (opensC_int Try.underlying3 (by kernel_rfl))) (by decide)) (by decide)) (by decide)) (by decide)) (by decide)) (by decide)) (by decide)) (by decide)) (by decide)) (by decide)) (by decide)) e41 w41 (fun p : Int × Int × S34 × Int × Int × Int × S38 × (List Int) × (List Int) × Int × Int × Int => ⟨p.1, p.2.1, p.2.2.1, p.2.2.2.1, p.2.2.2.2.1, p.2.2.2.2.2.1, p.2.2.2.2.2.2.1, p.2.2.2.2.2.2.2.1, p.2.2.2.2.2.2.2.2.1, p.2.2.2.2.2.2.2.2.2.1, p.2.2.2.2.2.2.2.2.2.2.1, p.2.2.2.2.2.2.2.2.2.2.2⟩) (fun _ => rfl) (fun _ h => h) (fun _ => rfl)
end Go.Proofs.Ytdkhlhfdjggbpaa.Cm
