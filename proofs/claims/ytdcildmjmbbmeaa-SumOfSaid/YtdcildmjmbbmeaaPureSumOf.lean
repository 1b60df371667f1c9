/- SumOf's plain law. -/
import Derived.Test.YtdcildmjmbbmeaaQ2
import Derived.Test.YtdcildmjmbbmeaaPureSum
namespace Go.Proofs.Ytdcildmjmbbmeaa.Pure
open Go.RowKit Go.Proofs.Ytdcildmjmbbmeaa.Q Go.Proofs.YtdcildmjmbbmeaaW.PrintWords Go.Proofs.YtdcildmjmbbmeaaW.PrintLast Go.Proofs.Ytdcildmjmbbmeaa.Giv Go.Proofs.Ytdcildmjmbbmeaa.Ref

theorem SumOf : viaductlaw02_SumOf.Pure := by
  intro l a b hm _ hw ha hb
  have hB := okB_wf hw
  have hA := bounds_u16 ha
  have hb2 := bounds_u16 hb
  have hsum := addF_range hA.1 (by omega) hb2.1 (by omega)
  by_cases hl : l.length ≤ 4096
  · obtain ⟨k, hk⟩ := (refOf_ev l hB hl).rounds
    refine ⟨k, ?_⟩
    have hr := ofF_range l hB
    unfold viaductlaw02_SumOf.f
    rw [alive02]
    simp only [Option.bind_some, if_true]
    rw [if_neg (by omega), add_f hA.1 (by omega) hb2.1 (by omega)]
    simp only [Option.bind_some]
    rw [wrap64_id (x := a) (by omega) (by omega), wrap64_id (x := b) (by omega) (by omega), refadd_f hA.1 (by omega) hb2.1 (by omega)]
    simp only [Option.bind_some]
    rw [wrap64_id (x := addF a b) (by omega) (by omega), if_pos rfl, of_f (by omega) hB]
    simp only [Option.bind_some]
    rw [hk]
    simp only [Option.bind_some]
    rw [wrap64_id (by omega) (by omega), if_pos rfl, right_f (by omega) hB]
    simp
  · refine ⟨0, ?_⟩
    unfold viaductlaw02_SumOf.f
    rw [alive02]
    simp only [Option.bind_some, if_true]
    rw [if_pos (by omega)]
end Go.Proofs.Ytdcildmjmbbmeaa.Pure
