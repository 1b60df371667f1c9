/- A law's parameter that is an array of plain values. -/
import Derived.Test.YtpigelcckiejiaaCmLaw
namespace Go.Proofs.Ytpigelcckiejiaa.Cm
open Go.RowKit
theorem okWide_arr {P : Program} {w : World} {r : Reach} {base : Nat} {t e : TypeId} {n : Nat} {v : Value} (ht : P.underlying t = some (.array n e)) (h : Value.okWide P w r base t v) : ∃ cs, v = .agg cs ∧ cs.size = P.cellsOf t := by
  simp only [Value.okWide, ht] at h
  obtain ⟨cs, h1, h2, _⟩ := h
  exact ⟨cs, h1, h2⟩
theorem open_arrC {α H : Type} {encH : TypeId × Value → H} {P : Program} {base : Nat} {sp : Nat → Bool} {hd : Bool} {t e : TypeId} {n : Nat} {enc : α → List DV} {wf : α → Prop} {r : Reach} {b0 : Nat} {v : Value} {x : DataW H} {ps : List MemPlace} {c : Cf} (hz : ∀ b, b < c.w.heap.size → c.Z b) (ht : P.underlying t = some (.array n e)) (h : OpensC P t enc wf)
    (hv : Value.okWide P c.w r b0 t v) (hx : DataW.Trod encH P c.w base sp hd t v x ps) : ∃ y : α, V c (.agg (enc y)) v ∧ wf y := by
  obtain ⟨cs, rfl, hsz⟩ := okWide_arr ht hv
  obtain ⟨fuel, hf⟩ := hx
  obtain ⟨y, hK, hw⟩ := h.2 H encH base sp hd fuel _ _ c hz hf
  have := V.agg (c := c) (l := enc y) (us := cs.toList) hK.len (by simpa [Value.cells] using hK.v)
  exact ⟨y, by simpa using this, hw⟩
end Go.Proofs.Ytpigelcckiejiaa.Cm
