/- The keys of graph.Check's map. -/
import Derived.Test.YtkcccomdamdocaaCmLib2
import Derived.DeepKeys4
namespace Go.Proofs.Ytkcccomdamdocaa.Cm
open Go.RowKit
set_option linter.unusedVariables false
set_option linter.unusedSimpArgs false
set_option maxRecDepth 20000
set_option maxHeartbeats 8000000
theorem ends_keyed : Maps.Keyed Try.prog 90 := Maps.Keyed.of_law (deep_law_laid (m := 9) (by kernel_rfl) (by decide) (by rw [show Try.prog.types.size = Try.prog.types.size from rfl]; decide) (by kernel_rfl) (by rw [Try.underlying90]))
theorem ends_key (a b : Int) (ha : (Lit.int .i64 a).wf = true) (hb : (Lit.int .i64 b).wf = true) : ∃ l, keyOf Try.prog 90 (.agg #[.int .i64 a, .int .i64 b]) = some l := by
  unfold keyOf
  rw [Try.underlying90]
  simp only
  have h1 : Try.prog.keyType 90 = true := by kernel_rfl
  rw [h1]
  simp only [Bool.true_and]
  have h2 : (Value.agg #[.int .i64 a, .int .i64 b]).formed Try.prog 90 = true := by
    unfold Value.formed
    simp only [Try.underlying90]
    rw [show Try.prog.cellsOf 90 = 2 by kernel_rfl]
    rfl
  rw [if_pos h2]
  obtain ⟨d, hd⟩ : ∃ d, Try.prog.types.size = d + 1 := ⟨Try.prog.types.size - 1, by kernel_rfl⟩
  rw [hd]
  have hi : ∀ n : Int, (Lit.int .i64 n).wf = true → Try.prog.keyLits (d + 1) 3 [.int .i64 n] = some [.int .i64 n] := fun n hn => by
    unfold Program.keyLits
    rw [Try.underlying3]
    simp [hn]
  have hc2 : Try.prog.cellsOf 90 = 2 := by kernel_rfl
  have hc1 : Try.prog.cellsOf 3 = 1 := by kernel_rfl
  unfold Program.keyLits
  rw [Try.underlying90]
  simp [Value.cells, hc2, hc1, hi, ha, hb]
end Go.Proofs.Ytkcccomdamdocaa.Cm
