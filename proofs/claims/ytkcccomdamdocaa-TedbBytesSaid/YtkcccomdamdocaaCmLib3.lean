/- Rows that were made on the way grow. -/
import Derived.Test.YtkcccomdamdocaaCmLib2
namespace Go.Proofs.Ytkcccomdamdocaa.Cm
open Go.RowKit
set_option linter.unusedVariables false
set_option linter.unusedSimpArgs false
set_option maxRecDepth 20000
set_option maxHeartbeats 8000000
/-- One more behind a row that was made on the way. -/
theorem Hold.app1x {σ σ0 : Heap} {d : DV} {e ty : TypeId} {els : List (List DV)} {x : List DV} {a b : Nat} {z : List Value} {ei : TI} (h : Hold σ d e els) (hnew : ∀ q ∈ tOf d, σ0.n ≤ q) (hx0 : Ext [] σ0 σ) (h1 : T ty = some ⟨.slice e, a, b, z⟩) (h2 : T e = some ei) (hp : 0 < ei.size)
    (hx : x.length = ei.size) (hb : (els.length + 1) * (ei.bytes + 1) ≤ 140737488355328) :
    ∃ d' σ', appendX T (σ.push ⟨[x], e, true⟩) ty d (.sl σ.n 0 1 1) = some (d', σ') ∧ Hold σ' d' e (els ++ [x]) ∧ (∀ q ∈ tOf d', σ0.n ≤ q) ∧ Ext [] σ0 σ' ∧ Ext (tOf d) (σ.push ⟨[x], e, true⟩) σ' := by
  obtain ⟨d', σ', happ, hh, hext, hfp⟩ := Hold.append (T := T) (ty := ty) (x := .sl σ.n 0 1 1) (xs := [x]) (h.frame (X := []) (σ' := σ.push ⟨[x], e, true⟩) ((Ext.refl _ _).push _) (by simp)) h1 h2 hp (by simp [sliceD, getO]) (by simp) (by simp [hx]) (by simpa using hb)
  refine ⟨d', σ', happ, hh, fun q hq => ?_, (hx0.push _).then hext (fun q hq hlq => absurd (hnew q hq) (by omega)), hext⟩
  rcases Nat.lt_or_ge q (σ.push ⟨[x], e, true⟩).n with h | h
  · exact hnew q (hfp q h hq)
  · have h1 := hx0.1; rw [Heap.n_push] at h; omega
theorem Hold.app1 {σ σ0 : Heap} {d : DV} {e ty : TypeId} {els : List (List DV)} {x : List DV} {a b : Nat} {z : List Value} {ei : TI} (h : Hold σ d e els) (hnew : ∀ q ∈ tOf d, σ0.n ≤ q) (hx0 : Ext [] σ0 σ) (h1 : T ty = some ⟨.slice e, a, b, z⟩) (h2 : T e = some ei) (hp : 0 < ei.size)
    (hx : x.length = ei.size) (hb : (els.length + 1) * (ei.bytes + 1) ≤ 140737488355328) :
    ∃ d' σ', appendX T (σ.push ⟨[x], e, true⟩) ty d (.sl σ.n 0 1 1) = some (d', σ') ∧ Hold σ' d' e (els ++ [x]) ∧ (∀ q ∈ tOf d', σ0.n ≤ q) ∧ Ext [] σ0 σ' := by
  obtain ⟨d', σ', r1, r2, r3, r4, _⟩ := h.app1x hnew hx0 h1 h2 hp hx hb
  exact ⟨d', σ', r1, r2, r3, r4⟩
/-- Some more behind a row that was made on the way. -/
theorem Hold.appM {σ σ0 : Heap} {d x : DV} {e ty : TypeId} {els xs : List (List DV)} {a b : Nat} {z : List Value} {ei : TI} (h : Hold σ d e els) (hnew : ∀ q ∈ tOf d, σ0.n ≤ q) (hx0 : Ext [] σ0 σ) (h1 : T ty = some ⟨.slice e, a, b, z⟩) (h2 : T e = some ei) (hp : 0 < ei.size)
    (hx : sliceD σ x = some xs) (hall : (xs.all fun el => el.length == ei.size) = true) (hb : (els.length + xs.length) * (ei.bytes + 1) ≤ 140737488355328) :
    ∃ d' σ', appendX T σ ty d x = some (d', σ') ∧ Hold σ' d' e (els ++ xs) ∧ (∀ q ∈ tOf d', σ0.n ≤ q) ∧ Ext [] σ0 σ' ∧ Ext (tOf d) σ σ' := by
  obtain ⟨d', σ', happ, hh, hext, hfp⟩ := h.append0 (T := T) (ty := ty) h1 h2 hp hx hall hb
  refine ⟨d', σ', happ, hh, fun q hq => ?_, hx0.then hext (fun q hq hlq => absurd (hnew q hq) (by omega)), hext⟩
  rcases Nat.lt_or_ge q σ.n with h | h
  · exact hnew q (hfp q h hq)
  · have h1 := hx0.1; omega
end Go.Proofs.Ytkcccomdamdocaa.Cm
