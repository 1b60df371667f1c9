/- The plain law of TedbOrder, Keeps and Newer: what Apply does to a base, one advert after another. -/
import Derived.Test.YtkcccomdamdocaaTedb5
namespace Go.Proofs.Ytkcccomdamdocaa.Cm
open Go.RowKit
set_option linter.unusedVariables false
set_option linter.unusedSimpArgs false
/-- The adverts of one link with one Seq are one. -/
def Unlike (l : List Ad) : Prop := ∀ x ∈ l, ∀ y ∈ l, x.f0.f0 = y.f0.f0 → x.f0.f1 = y.f0.f1 → x.f1 = y.f1 → x = y
def appL (b : List Ad) (s : List Ad) : List Ad := s.foldl (fun b x => (appA b x).1) b
theorem appL_snoc (b s : List Ad) (x : Ad) : appL b (s ++ [x]) = (appA (appL b s) x).1 := by simp [appL]
theorem appL_length (b : List Ad) : ∀ s : List Ad, (appL b s).length = b.length := by
  intro s
  induction s generalizing b with
  | nil => rfl
  | cons x s ih => simp only [appL, List.foldl_cons] at ih ⊢; rw [ih, appA_length]
def ends (x : Ad) : Int × Int := (x.f0.f0, x.f0.f1)
theorem atA_iff (a : Ad) (x : Ad) : atA a.f0.f0 a.f0.f1 x ↔ ends x = ends a := by simp [atA, ends]
theorem fnA_ends {b c : List Ad} (h : b.map ends = c.map ends) (a : Ad) : fnA b a = fnA c a := by
  have key : ∀ l : List Ad, fnA l a = (l.map ends).findIdx? (fun e => decide (e = ends a)) := fun l => by
    unfold fnA
    rw [List.findIdx?_map]
    congr 1
    funext x
    simp [atA_iff]
  rw [key, key, h]
/-- What one advert does. -/
theorem appA_cases (b : List Ad) (a : Ad) : ((appA b a).1 = b ∧ (appA b a).2.1 = false ∧ (mayA a → ∀ k, fnA b a = some k → ∀ y, b[k]? = some y → a.f1 ≤ y.f1)) ∨ ∃ k y, mayA a ∧ fnA b a = some k ∧ b[k]? = some y ∧ y.f1 < a.f1 ∧ appA b a = (b.set k a, true, 0) := by
  by_cases hm : mayA a
  · cases hf : fnA b a with
    | none => left; simp [appA, hm, hf]
    | some k =>
      have hk := fnA_lt hf
      have hg : b[k]? = some b[k] := List.getElem?_eq_getElem hk
      by_cases hs : a.f1 ≤ b[k].f1
      · left
        refine ⟨by simp [appA, hm, hf, hg, hs], by simp [appA, hm, hf, hg, hs], fun _ k' hk' y hy => ?_⟩
        cases hk'
        rw [hg] at hy; cases hy; exact hs
      · right
        exact ⟨k, b[k], hm, rfl, hg, by omega, by simp [appA, hm, hf, hg, hs]⟩
  · left; simp [appA, hm]
theorem appA_ends (b : List Ad) (a : Ad) : (appA b a).1.map ends = b.map ends := by
  rcases appA_cases b a with ⟨h, _⟩ | ⟨k, y, hm, hf, hg, hs, h⟩
  · rw [h]
  · rw [h]
    have ha := fnA_at hf
    rw [atA_iff] at ha
    have hk := fnA_lt hf
    apply List.ext_getElem?
    intro i
    rw [List.getElem?_map, List.getElem?_map, List.getElem?_set]
    split
    · rename_i hik
      subst hik
      rw [List.getElem?_eq_getElem hk]
      simp [ha]
    · rfl
/-- What a base has behind adverts, whichever came: at each place the first or the newest of them. -/
def Seen (b0 s b : List Ad) : Prop := b.map ends = b0.map ends ∧ ∀ k y0 y, b0[k]? = some y0 → b[k]? = some y → (y = y0 ∨ (y ∈ s ∧ mayA y ∧ fnA b0 y = some k ∧ y0.f1 < y.f1)) ∧ ∀ x ∈ s, mayA x → fnA b0 x = some k → x.f1 ≤ y.f1
theorem Seen.start (b : List Ad) : Seen b [] b := ⟨rfl, fun k y0 y h0 h => by
  rw [h0] at h; cases h; exact ⟨.inl rfl, by simp⟩⟩
theorem Seen.step {b0 s b : List Ad} (h : Seen b0 s b) (a : Ad) : Seen b0 (s ++ [a]) (appA b a).1 := by
  obtain ⟨he, hs⟩ := h
  refine ⟨(appA_ends b a).trans he, fun k y0 y h0 hy => ?_⟩
  have hfe : ∀ x, fnA b x = fnA b0 x := fun x => fnA_ends he x
  rcases appA_cases b a with ⟨e, _, hold⟩ | ⟨j, z, hm, hf, hg, hlt, e⟩
  · rw [e] at hy
    obtain ⟨h1, h2⟩ := hs k y0 y h0 hy
    refine ⟨h1.imp id (fun ⟨r1, r2⟩ => ⟨List.mem_append_left _ r1, r2⟩), fun x hx hmx hfx => ?_⟩
    rcases List.mem_append.1 hx with hx | hx
    · exact h2 x hx hmx hfx
    · rw [List.mem_singleton.1 hx] at hmx hfx ⊢
      exact hold hmx k (by rw [hfe]; exact hfx) y hy
  · rw [e] at hy
    simp only at hy
    have hjb := fnA_lt hf
    by_cases hkj : j = k
    · subst hkj
      rw [List.getElem?_set_self hjb] at hy
      cases hy
      obtain ⟨h1, h2⟩ := hs j y0 z h0 hg
      have h0z : y0.f1 ≤ z.f1 := by
        rcases h1 with rfl | ⟨_, _, _, h⟩
        · omega
        · omega
      refine ⟨.inr ⟨List.mem_append_right _ (List.mem_singleton.2 rfl), hm, by rw [← hfe]; exact hf, by omega⟩, fun x hx hmx hfx => ?_⟩
      rcases List.mem_append.1 hx with hx | hx
      · have := h2 x hx hmx hfx; omega
      · rw [List.mem_singleton.1 hx]; omega
    · rw [List.getElem?_set_ne hkj] at hy
      obtain ⟨h1, h2⟩ := hs k y0 y h0 hy
      refine ⟨h1.imp id (fun ⟨r1, r2⟩ => ⟨List.mem_append_left _ r1, r2⟩), fun x hx hmx hfx => ?_⟩
      rcases List.mem_append.1 hx with hx | hx
      · exact h2 x hx hmx hfx
      · rw [List.mem_singleton.1 hx] at hfx
        rw [← hfe, hf] at hfx
        cases hfx; exact absurd rfl hkj
theorem Seen.one {b0 s t b c l : List Ad} (hb : Seen b0 s b) (hc : Seen b0 t c) (hu : Unlike l) (hs : ∀ x, x ∈ s ↔ x ∈ l) (ht : ∀ x, x ∈ t ↔ x ∈ l) : b = c := by
  have hlb : b.length = b0.length := by have := congrArg List.length hb.1; simpa using this
  have hlc : c.length = b0.length := by have := congrArg List.length hc.1; simpa using this
  apply List.ext_getElem?
  intro k
  by_cases hk : k < b0.length
  · obtain ⟨y0, h0⟩ : ∃ y0, b0[k]? = some y0 := ⟨_, List.getElem?_eq_getElem hk⟩
    obtain ⟨y, hy⟩ : ∃ y, b[k]? = some y := ⟨_, List.getElem?_eq_getElem (by omega)⟩
    obtain ⟨z, hz⟩ : ∃ z, c[k]? = some z := ⟨_, List.getElem?_eq_getElem (by omega)⟩
    rw [hy, hz]
    obtain ⟨y1, y2⟩ := hb.2 k y0 y h0 hy
    obtain ⟨z1, z2⟩ := hc.2 k y0 z h0 hz
    rcases y1 with rfl | ⟨yl, ym, yf, yg⟩
    · rcases z1 with rfl | ⟨zl, zm, zf, zg⟩
      · rfl
      · have := y2 z ((hs z).2 ((ht z).1 zl)) zm zf; omega
    · rcases z1 with rfl | ⟨zl, zm, zf, zg⟩
      · have := z2 y ((ht y).2 ((hs y).1 yl)) ym yf; omega
      · have h1 := y2 z ((hs z).2 ((ht z).1 zl)) zm zf
        have h2 := z2 y ((ht y).2 ((hs y).1 yl)) ym yf
        have ey := (atA_iff _ _).1 (fnA_at yf)
        have ez := (atA_iff _ _).1 (fnA_at zf)
        have : ends y = ends z := by rw [← ey, ← ez]
        simp only [ends, Prod.mk.injEq] at this
        rw [hu y ((hs y).1 yl) z ((ht z).1 zl) this.1 this.2 (by omega)]
  · rw [List.getElem?_eq_none (by omega), List.getElem?_eq_none (by omega)]
end Go.Proofs.Ytkcccomdamdocaa.Cm
