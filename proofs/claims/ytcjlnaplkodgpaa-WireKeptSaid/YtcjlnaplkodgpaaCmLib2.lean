/- More words over the told heap. -/
import Derived.Test.YtcjlnaplkodgpaaCmLib
import Derived.Test.YtcjlnaplkodgpaaCmMap
import Derived.Test.YtcjlnaplkodgpaaCmKinds
namespace Go.Proofs.Ytcjlnaplkodgpaa.Cm
open Go.RowKit
set_option linter.unusedVariables false
set_option linter.unusedSimpArgs false
set_option maxRecDepth 20000
section
variable {P : Program} {σ : Heap} {f : FuncId} {args : List DV} {e : TypeId} {els : List (List DV)}
/-- An answer's row that was made on the way, told by its elements from now on. -/
theorem ACalls.toImmH (h : ACalls P f args σ (fun x σ' => Hold σ' x e els ∧ (∀ q ∈ tOf x, σ.n ≤ q) ∧ Ext [] σ σ')) : ACalls P f args σ (fun x σ' => x = .imm els ∧ Ext [] σ σ') := by
  refine h.retell (fun c x v hok hv hR => ?_)
  obtain ⟨hrow, hnew, hext⟩ := hR
  rcases hrow with ⟨rfl, rfl⟩ | ⟨t, full, rfl, hget, hle, htk⟩
  · exact ⟨.imm [], c, rfl, hok, Ev.refl c, nil_imm hv, rfl, hext⟩
  · obtain ⟨h1, h2⟩ := Cm.freeze hok hget
    have hlt := Heap.lt hget
    refine ⟨.imm els, { c with σ := c.σ.set t { (⟨full, e, true⟩ : AObj) with own := false }, Z := fun b => c.Z b ∨ b = (c.μ t).blk }, rfl, h1, h2, ?_, rfl, hext.set (.inl (hnew t (by simp [tOf]))) _⟩
    have := FZ.v h1 (ob := ⟨full, e, false⟩) (Heap.get_set hlt) rfl (.inr rfl) (FZ.sl (off := 0) (len := els.length) (by simpa using hle)) (hv.ev h2)
    simpa [htk] using this
end
/-- An element's cells. -/
theorem Hold.at_ {σ : Heap} {d : DV} {e : TypeId} {els : List (List DV)} (h : Hold σ d e els) {i : Nat} (hi : i < els.length) : ∃ t full, d = .sl t 0 els.length full.length ∧ σ.get t = some ⟨full, e, true⟩ ∧ full[i]? = some els[i] := by
  rcases h with ⟨rfl, rfl⟩ | ⟨t, full, rfl, hg, hle, htk⟩
  · simp at hi
  · refine ⟨t, full, rfl, hg, ?_⟩
    have : (full.take els.length)[i]? = els[i]? := by rw [htk]
    rw [List.getElem?_take, if_pos hi] at this
    rw [this, List.getElem?_eq_getElem hi]
def FZL (t m : Nat) (els : List (List DV)) : List DV → List DV → Prop
  | [], [] => True
  | x :: l, x' :: l' => FZ t m els x x' ∧ FZL t m els l l'
  | _, _ => False
theorem FZL.spec {t m : Nat} {els : List (List DV)} : ∀ {l l' : List DV}, FZL t m els l l' → l.length = l'.length ∧ ∀ (j : Nat) (x y : DV), l[j]? = some x → l'[j]? = some y → FZ t m els x y
  | [], [], _ => ⟨rfl, fun j x x' h => by simp at h⟩
  | x :: l, x' :: l', ⟨h1, h2⟩ => by
    obtain ⟨k1, k2⟩ := h2.spec
    refine ⟨by simp [k1], fun j y y' hy hy' => ?_⟩
    cases j with
    | zero => simp at hy hy'; subst hy; subst hy'; exact h1
    | succ j => exact k2 j y y' (by simpa using hy) (by simpa using hy')
  | [], _ :: _, h => h.elim
  | _ :: _, [], h => h.elim
/-- An answer with a row in it that was made on the way: told by its elements from now on. -/
theorem ACalls.toImmG {P : Program} {σ : Heap} {f : FuncId} {args : List DV} {e : TypeId} {els : List (List DV)} (F : DV → DV) (hF : ∀ t m es d d', FZ t m es d d' → FZ t m es (F d) (F d')) (hN : Tells (F (.sc (.slice none 0 0))) (F (.imm [])))
    (h : ACalls P f args σ (fun x σ' => ∃ d, x = F d ∧ Hold σ' d e els ∧ (∀ q ∈ tOf d, σ.n ≤ q) ∧ Ext [] σ σ')) : ACalls P f args σ (fun x σ' => x = F (.imm els) ∧ Ext [] σ σ') := by
  refine h.retell (fun c x v hok hv hR => ?_)
  obtain ⟨d, rfl, hrow, hnew, hext⟩ := hR
  rcases hrow with ⟨rfl, rfl⟩ | ⟨t, full, rfl, hget, hle, htk⟩
  · exact ⟨F (.imm []), c, rfl, hok, Ev.refl c, hN c v hv, rfl, hext⟩
  · obtain ⟨h1, h2⟩ := Cm.freeze hok hget
    have hlt := Heap.lt hget
    refine ⟨F (.imm els), { c with σ := c.σ.set t { (⟨full, e, true⟩ : AObj) with own := false }, Z := fun b => c.Z b ∨ b = (c.μ t).blk }, rfl, h1, h2, ?_, rfl, hext.set (.inl (hnew t (by simp [tOf]))) _⟩
    have h3 : FZ t full.length full (.sl t 0 els.length full.length) (.imm els) := by
      have := FZ.sl (t := t) (m := full.length) (els := full) (off := 0) (len := els.length) (by simpa using hle)
      simpa [htk] using this
    exact FZ.v h1 (ob := ⟨full, e, false⟩) (Heap.get_set hlt) rfl (.inr rfl) (hF _ _ _ _ _ h3) (hv.ev h2)
/-- A heap by a name. -/
theorem AW.name {P : Program} {code : Code} {ts : List DV} {σ : Heap} {Q : Exit → List DV → Heap → Prop} (h : ∀ σ0, σ0 = σ → AW P code ts σ0 Q) : AW P code ts σ Q := h σ rfl
/-- A sequence, cut in the middle. -/
theorem AW.seqK {P : Program} {x y : Code} {ts : List DV} {σ : Heap} {Q : Exit → List DV → Heap → Prop} (K : List DV → Heap → Prop) (hx : AW P x ts σ (thenA K Q)) (hy : ∀ ts σ, K ts σ → AW P y ts σ Q) : AW P (.seq x y) ts σ Q :=
  AW.seq (hx.mono (fun e ts σ h => by cases e <;> first | exact hy _ _ h | exact h))
theorem AW.at1 {P : Program} {id : Nat} {ops : Array Oper} {d : Bool} {y : Code} {ts : List DV} {σ : Heap} {Q : Exit → List DV → Heap → Prop} (h : AW P (.seq (.region id ops d) y) ts σ Q) : AW P (.seq (.region id ops d) y) ts σ Q := h
theorem AW.at3 {P : Program} {id : Nat} {x y : Code} {ts : List DV} {σ : Heap} {Q : Exit → List DV → Heap → Prop} (h : AW P (.seq (.block id x) y) ts σ Q) : AW P (.seq (.block id x) y) ts σ Q := h
theorem AW.at2 {P : Program} {id : Nat} {ops : Array Oper} {d : Bool} {x y : Code} {ts : List DV} {σ : Heap} {Q : Exit → List DV → Heap → Prop} (h : AW P (.seq (.seq (.region id ops d) x) y) ts σ Q) : AW P (.seq (.seq (.region id ops d) x) y) ts σ Q := h
/-- What an object holds, told otherwise. -/
theorem AW.retell {P : Program} {code : Code} {ts : List DV} {σ : Heap} {Q : Exit → List DV → Heap → Prop} {t : Nat} {el el' : List DV} {e : TypeId} {b : Bool} (ho : σ.get t = some ⟨[el], e, b⟩) (hl : TellsL el el') (h : AW P code ts (σ.set t ⟨[el'], e, b⟩) Q) : AW P code ts σ Q := fun c hc hσ a hT => by
  subst hσ
  obtain ⟨h1, h2⟩ := hl.spec
  obtain ⟨k1, k2⟩ := Cm.retell (o' := ⟨[el'], e, b⟩) hc ho rfl rfl rfl (fun i l l' hi hi' => by
    cases i with
    | zero => simp at hi hi'; subst hi; subst hi'; exact ⟨h1, fun j x x' u hx hx' hv => h2 j x x' hx hx' c u hv⟩
    | succ i => simp at hi)
  have := h _ k1 rfl a (hT.ev k2)
  exact wp_mono this (fun e a' w' hh => by obtain ⟨ts', c', r1, r2, r3, r4, r5⟩ := hh; exact ⟨ts', c', r1, r2, k2.trans r3, r4, r5⟩)
theorem lenH {σ : Heap} {d : DV} {e ty : TypeId} {e' : TypeId} {a b : Nat} {z : List Value} {α : Type} {l : List α} {g : α → List DV} (h : Hold σ d e (l.map g)) (h1 : T ty = some ⟨.slice e', a, b, z⟩) : lenD T ty d = some (l.length : Int) := by
  have := h.len (T := T) (ty := ty) h1
  rwa [List.length_map] at this
/-- Told once more, from a configuration that has come of it. -/
theorem AW.on {P : Program} {code : Code} {ts : List DV} {σ : Heap} {Q : Exit → List DV → Heap → Prop}
    (h : ∀ c, Ok P c → c.σ = σ → ∀ a, TR c ts a → ∃ c' ts', c'.w = c.w ∧ Ok P c' ∧ Ev c c' ∧ TR c' ts' a ∧ AW P code ts' c'.σ Q) : AW P code ts σ Q := fun c hc hσ a hT => by
  obtain ⟨c', ts', hw, k1, k2, k3, hA⟩ := h c hc hσ a hT
  have := hA c' k1 rfl a k3
  rw [hw] at this
  exact wp_mono this (fun e a' w' hh => by obtain ⟨ts'', c'', r1, r2, r3, r4, r5⟩ := hh; exact ⟨ts'', c'', r1, r2, k2.trans r3, r4, r5⟩)
theorem getElem?_mid {α : Type} {pre post : List α} {x y : α} {j : Nat} (h : j ≠ pre.length) : (pre ++ x :: post)[j]? = (pre ++ y :: post)[j]? := by
  by_cases hj : j < pre.length
  · rw [List.getElem?_append_left hj, List.getElem?_append_left hj]
  · rw [List.getElem?_append_right (by omega), List.getElem?_append_right (by omega)]
    obtain ⟨k, hk⟩ : ∃ k, j - pre.length = k + 1 := ⟨j - pre.length - 1, by omega⟩
    rw [hk]; rfl
/-- The row in a cell of an object is written no more: told by its elements. -/
theorem holdCell {P : Program} {c : Cf} (hc : Ok P c) {p : Nat} {pre post : List DV} {d : DV} {els : List (List DV)} {e ep : TypeId} {b : Bool} (hh : Hold c.σ d e els) (hp : c.σ.get p = some ⟨[pre ++ d :: post], ep, b⟩) (hpd : p ∉ tOf d) :
    ∃ c', c'.w = c.w ∧ Ok P c' ∧ Ev c c' ∧ Ext (p :: tOf d) c.σ c'.σ ∧ c'.σ.get p = some ⟨[pre ++ .imm els :: post], ep, b⟩ := by
  have cell : ∀ (c1 : Cf), Ok P c1 → c1.σ.get p = some ⟨[pre ++ d :: post], ep, b⟩ → (∀ u, V c1 d u → V c1 (.imm els) u) → ∃ c', c'.w = c1.w ∧ Ok P c' ∧ Ev c1 c' ∧ Ext [p] c1.σ c'.σ ∧ c'.σ.get p = some ⟨[pre ++ .imm els :: post], ep, b⟩ := fun c1 h1 hp1 hv => by
    obtain ⟨k1, k2⟩ := Cm.retell (o' := ⟨[pre ++ .imm els :: post], ep, b⟩) h1 hp1 rfl rfl rfl (fun i l l' hi hi' => by
      cases i with
      | succ i => simp at hi
      | zero =>
        simp at hi hi'; subst hi; subst hi'
        refine ⟨by simp, fun j x x' u hx hx' hvx => ?_⟩
        by_cases hj : j = pre.length
        · subst hj
          simp at hx hx'; subst hx; subst hx'; exact hv u hvx
        · rw [getElem?_mid (y := d) hj, hx] at hx'
          cases hx'; exact hvx)
    exact ⟨{ c1 with σ := c1.σ.set p ⟨[pre ++ .imm els :: post], ep, b⟩ }, rfl, k1, k2, (Ext.refl _ _).set (.inr (by simp)) _, Heap.get_set (Heap.lt hp1)⟩
  rcases hh with ⟨rfl, rfl⟩ | ⟨t, full, rfl, hg, hle, htk⟩
  · obtain ⟨c', r1, r2, r3, r4, r5⟩ := cell c hc hp (fun u hu => nil_imm hu)
    exact ⟨c', r1, r2, r3, r4.mono (by simp [tOf]), r5⟩
  · have htp : t ≠ p := by intro e; subst e; simp [tOf] at hpd
    obtain ⟨h1, h2⟩ := Cm.freeze hc hg
    have hp1 : (c.σ.set t { (⟨full, e, true⟩ : AObj) with own := false }).get p = some ⟨[pre ++ .sl t 0 els.length full.length :: post], ep, b⟩ := by rw [Heap.get_set_ne htp]; exact hp
    obtain ⟨c', r1, r2, r3, r4, r5⟩ := cell _ h1 hp1 (fun u hu => by
      have := FZ.v h1 (ob := ⟨full, e, false⟩) (Heap.get_set (Heap.lt hg)) rfl (.inr rfl) (FZ.sl (off := 0) (len := els.length) (by simpa using hle)) hu
      simpa [htk] using this)
    refine ⟨c', r1, r2, h2.trans r3, ?_, r5⟩
    have e1 : Ext (p :: tOf (.sl t 0 els.length full.length)) c.σ (c.σ.set t { (⟨full, e, true⟩ : AObj) with own := false }) := (Ext.refl _ _).set (.inr (by simp [tOf])) _
    exact e1.trans (r4.mono (by simp))
theorem ACalls.holdCell {P : Program} {f : FuncId} {args : List DV} {σ : Heap} {R : DV → Heap → Prop}
    (h : ACalls P f args σ (fun x σ' => ∃ p pre d post ep b els e, Hold σ' d e els ∧ σ'.get p = some ⟨[pre ++ d :: post], ep, some b⟩ ∧ p ∉ tOf d ∧ ∀ σ'', Ext (p :: tOf d) σ' σ'' → σ''.get p = some ⟨[pre ++ .imm els :: post], ep, some b⟩ → R x σ'')) : ACalls P f args σ R := by
  refine h.retell (fun c x v hok hv hR => ?_)
  obtain ⟨p, pre, d, post, ep, b, els, e, hh, hp, hpd, hR'⟩ := hR
  obtain ⟨c', r1, r2, r3, r4, r5⟩ := Cm.holdCell hok hh hp hpd
  exact ⟨x, c', r1, r2, r3, hv.ev r3, hR' _ r4 r5⟩
theorem AW.holdCell {P : Program} {code : Code} {ts : List DV} {σ : Heap} {Q : Exit → List DV → Heap → Prop} {p : Nat} {pre post : List DV} {d : DV} {els : List (List DV)} {e ep : TypeId} {b : Bool} (hh : Hold σ d e els) (hp : σ.get p = some ⟨[pre ++ d :: post], ep, b⟩) (hpd : p ∉ tOf d)
    (h : ∀ σ', Ext (p :: tOf d) σ σ' → σ'.get p = some ⟨[pre ++ .imm els :: post], ep, b⟩ → AW P code ts σ' Q) : AW P code ts σ Q := AW.on (fun c hc hσ a hT => by
  subst hσ
  obtain ⟨c', r1, r2, r3, r4, r5⟩ := Cm.holdCell hc hh hp hpd
  exact ⟨c', ts, r1, r2, r3, hT.ev r3, h _ r4 r5⟩)
/-- The row in a slot is written no more: told by its elements. -/
theorem AW.holdSlot {P : Program} {code : Code} {ts : List DV} {σ : Heap} {Q : Exit → List DV → Heap → Prop} {d : DV} {els : List (List DV)} {e : TypeId} {j : Nat} (hh : Hold σ d e els) (hj : ts[j]? = some d)
    (h : ∀ σ', Ext (tOf d) σ σ' → AW P code (ts.set j (.imm els)) σ' Q) : AW P code ts σ Q := AW.on (fun c hc hσ a hT => by
  subst hσ
  have slot : ∀ (c1 : Cf), TR c1 ts a → (∀ u, V c1 d u → V c1 (.imm els) u) → TR c1 (ts.set j (.imm els)) a := fun c1 hT1 hv => by
    refine ⟨hT1.defers, by rw [List.length_set]; exact hT1.size, fun i x hx => ?_⟩
    rw [List.getElem?_set] at hx
    split at hx
    · rename_i hji; subst hji
      split at hx
      · cases hx
        obtain ⟨u, hu, hvu⟩ := hT1.at_ j d hj
        exact ⟨u, hu, hv u hvu⟩
      · cases hx
    · exact hT1.at_ i x hx
  rcases hh with ⟨rfl, rfl⟩ | ⟨t, full, rfl, hg, hle, htk⟩
  · exact ⟨c, _, rfl, hc, Ev.refl c, slot c hT (fun u hu => nil_imm hu), h _ (Ext.refl _ _)⟩
  · obtain ⟨h1, h2⟩ := Cm.freeze hc hg
    refine ⟨{ c with σ := c.σ.set t { (⟨full, e, true⟩ : AObj) with own := false }, Z := fun b => c.Z b ∨ b = (c.μ t).blk }, _, rfl, h1, h2, slot _ (hT.ev h2) (fun u hu => ?_), h _ ((Ext.refl _ _).set (.inr (by simp [tOf])) _)⟩
    have := FZ.v h1 (ob := ⟨full, e, false⟩) (Heap.get_set (Heap.lt hg)) rfl (.inr rfl) (FZ.sl (off := 0) (len := els.length) (by simpa using hle)) hu
    simpa [htk] using this)
theorem wrap_u8_mod (n : Int) : IntKind.u8.wrap n = n % 256 := by
  simp only [IntKind.wrap, IntKind.bits, IntKind.signed]
  simp only [Bool.false_and, Bool.false_eq_true, if_false]; rfl
theorem Hold.append0 {T : Tab} {σ : Heap} {d x : DV} {e ty : TypeId} {els xs : List (List DV)} {a b : Nat} {z : List Value} {ei : TI} (h : Hold σ d e els) (h1 : T ty = some ⟨.slice e, a, b, z⟩) (h2 : T e = some ei) (hp : 0 < ei.size)
    (hx : sliceD σ x = some xs) (hall : (xs.all fun el => el.length == ei.size) = true) (hb : (els.length + xs.length) * (ei.bytes + 1) ≤ 140737488355328) :
    ∃ d' σ', appendX T σ ty d x = some (d', σ') ∧ Hold σ' d' e (els ++ xs) ∧ Ext (tOf d) σ σ' ∧ (∀ q, q < σ.n → q ∈ tOf d' → q ∈ tOf d) := by
  by_cases hn : xs.length = 0
  · have hn' : xs = [] := List.eq_nil_of_length_eq_zero hn
    subst hn'
    refine ⟨d, σ, ?_, by simpa using h, Ext.refl _ _, fun _ _ h => h⟩
    rcases h with ⟨rfl, rfl⟩ | ⟨t, full, rfl, hg, hle, htk⟩
    · simp only [appendX, appendD, h1, h2, hx, hp, hall, and_self, if_true, List.length_nil]
    · by_cases hE : els.length = full.length
      · simp only [appendX, appendD, appendP, getO, h1, h2, hx, hp, hall, hg, hE, Option.isSome_some, and_self, if_true, List.length_nil]
      · simp only [appendX, appendD, appendP, getO, h1, h2, hx, hp, hall, hg, hE, Option.isSome_some, and_self, and_false, false_and, if_true, if_false, List.length_nil]
  · exact h.append h1 h2 hp hx (by omega) hall hb
/-- Slot d is a slice of those elements, whatever else is made. -/
def Src (σ : Heap) (d : DV) (els : List (List DV)) : Prop := ∀ σ', Ext [] σ σ' → sliceD σ' d = some els
theorem Src.imm (σ : Heap) (els : List (List DV)) : Src σ (.imm els) els := fun _ _ => rfl
theorem Src.of_nil (σ : Heap) : Src σ (.sc (.slice none 0 0)) [] := fun _ _ => rfl
theorem Hold.slice {σ : Heap} {d : DV} {e : TypeId} {els : List (List DV)} (h : Hold σ d e els) : sliceD σ d = some els := by
  rcases h with ⟨rfl, rfl⟩ | ⟨t, full, rfl, hg, hle, htk⟩
  · rfl
  · simp [sliceD, getO, hg, htk, hle]
theorem Hold.src {σ : Heap} {d : DV} {e : TypeId} {els : List (List DV)} (h : Hold σ d e els) : Src σ d els := fun σ' hx => (h.frame hx (by simp)).slice
theorem Src.push {σ : Heap} {d : DV} {els : List (List DV)} (h : Src σ d els) (o : AObj) : sliceD (σ.push o) d = some els := h _ ((Ext.refl _ _).push o)
theorem Src.now {σ : Heap} {d : DV} {els : List (List DV)} (h : Src σ d els) : sliceD σ d = some els := h _ (Ext.refl _ _)
theorem Src.ext {σ σ' : Heap} {d : DV} {els : List (List DV)} (h : Src σ d els) (hx : Ext [] σ σ') : Src σ' d els := fun σ'' h2 => h _ (hx.trans h2)
/-- A row handed in is written no more: told by its elements. -/
theorem ACalls.holdArg {P : Program} {f : FuncId} {args : List DV} {σ : Heap} {R : DV → Heap → Prop} {d : DV} {els : List (List DV)} {e : TypeId} {j : Nat} (hh : Hold σ d e els) (hj : args[j]? = some d)
    (h : ∀ σ', Ext (tOf d) σ σ' → ACalls P f (args.set j (.imm els)) σ' R) : ACalls P f args σ R := fun c hc hσ vs hv => by
  subst hσ
  have arg : ∀ (c1 : Cf), VL c1 args vs → (∀ u, V c1 d u → V c1 (.imm els) u) → VL c1 (args.set j (.imm els)) vs := fun c1 hv1 hvd => by
    refine ⟨by rw [List.length_set]; exact hv1.1, fun i x u hx hu => ?_⟩
    rw [List.getElem?_set] at hx
    split at hx
    · rename_i hji; subst hji
      split at hx
      · cases hx; exact hvd u (hv1.2 j d u hj hu)
      · cases hx
    · exact hv1.2 i x u hx hu
  rcases hh with ⟨rfl, rfl⟩ | ⟨t, full, rfl, hg, hle, htk⟩
  · exact h _ (Ext.refl _ _) c hc rfl vs (arg c hv (fun u hu => nil_imm hu))
  · obtain ⟨h1, h2⟩ := Cm.freeze hc hg
    have hv1 : VL { c with σ := c.σ.set t { (⟨full, e, true⟩ : AObj) with own := false }, Z := fun b => c.Z b ∨ b = (c.μ t).blk } args vs := ⟨hv.1, fun i x u hx hu => (hv.2 i x u hx hu).ev h2⟩
    have := h _ ((Ext.refl _ _).set (.inr (by simp [tOf])) _) _ h1 rfl vs (arg _ hv1 (fun u hu => by
      have := FZ.v h1 (ob := ⟨full, e, false⟩) (Heap.get_set (Heap.lt hg)) rfl (.inr rfl) (FZ.sl (off := 0) (len := els.length) (by simpa using hle)) hu
      simpa [htk] using this))
    exact this.mono fun e w' ⟨v, x, c', k1, k2, k3, k4, k5, k6⟩ => ⟨v, x, c', k1, k2, k3, h2.trans k4, k5, k6⟩
def TellsLL : List (List DV) → List (List DV) → Prop
  | [], [] => True
  | x :: l, x' :: l' => TellsL x x' ∧ TellsLL l l'
  | _, _ => False
theorem TellsLL.spec : ∀ {l l' : List (List DV)}, TellsLL l l' → l'.length = l.length ∧ ∀ (i : Nat) (x x' : List DV), l[i]? = some x → l'[i]? = some x' → TellsL x x'
  | [], [], _ => ⟨rfl, fun j x x' h => by simp at h⟩
  | x :: l, x' :: l', ⟨h1, h2⟩ => by
    obtain ⟨k1, k2⟩ := h2.spec
    refine ⟨by simp [k1], fun j y y' hy hy' => ?_⟩
    cases j with
    | zero => simp at hy hy'; subst hy; subst hy'; exact h1
    | succ j => exact k2 j y y' (by simpa using hy) (by simpa using hy')
  | [], _ :: _, h => h.elim
  | _ :: _, [], h => h.elim
theorem Tells.imm {l l' : List (List DV)} (h : TellsLL l l') : Tells (.imm l) (.imm l') := fun c v hv => by
  obtain ⟨hl, hr⟩ := h.spec
  cases hv with
  | imm hc hm hsz hul hA h0 h1 hv =>
    rename_i sz A cp us
    have hrow : ∀ (i : Nat) (x' : List DV), l'[i]? = some x' → ∃ x, l[i]? = some x ∧ TellsL x x' := fun i x' hx' => by
      have hlt : i < l.length := by rw [← hl]; exact (List.getElem?_eq_some_iff.1 hx').1
      exact ⟨_, List.getElem?_eq_getElem hlt, hr i _ _ (List.getElem?_eq_getElem hlt) hx'⟩
    rw [← hl] at hc hul
    have hg : V c (.imm l') (.slice A l'.length cp) := by
      refine .imm (sz := sz) (us := us) hc hm (fun el hel => ?_) hul hA (fun e => ⟨?_, (h0 e).2⟩) h1 (fun i j el x u hi hj hu => ?_)
      · obtain ⟨i, hi⟩ := List.mem_iff_getElem?.1 hel
        obtain ⟨x, hx, ht⟩ := hrow i el hi
        rw [ht.spec.1]; exact hsz x (List.mem_of_getElem? hx)
      · have := (h0 e).1; subst this; exact List.eq_nil_of_length_eq_zero hl
      · obtain ⟨x0, hx0, ht⟩ := hrow i el hi
        obtain ⟨t1, t2⟩ := ht.spec
        have hjl : j < x0.length := by rw [← t1]; exact (List.getElem?_eq_some_iff.1 hj).1
        exact t2 j _ x (List.getElem?_eq_getElem hjl) hj c u (hv i j x0 _ u hx0 (List.getElem?_eq_getElem hjl) hu)
    rw [hl] at hg; exact hg
/-! The set by which a walk goes (under the name of a set that nobody else uses here). -/
attribute [push_cast] IntKind.bits xfin xlr xstep dfin drun dstep kindOf lateL bitOf slotD List.getD_cons_zero List.getD_cons_succ List.contains_cons List.contains_nil Bool.or_false
attribute [push_cast] Bool.or_true Bool.true_or Bool.false_or gon gval aop withσ callD Cm.eval evalL evalParts evalI dvOf plain putD thenA blockA retQ resAll resL resD T abin aun
attribute [push_cast] anil nilD nilOf peq extractD loadD memD getO storeD splice cellsD leaf fieldAddrD fieldD partD indexAddrD indexD boxD buildD fillD structPlaces allTyped
attribute [push_cast] buildSliceD chunk flatZero cutD makeD convD markD sliceD unbytes unbyte lenD appendD appendP clearD cutM TI.isAgg unbytes_bytesD List.size_toArray
attribute [push_cast] List.length_cons List.length_nil List.replicate List.cons_append List.nil_append List.append_nil List.getElem?_cons_zero List.getElem?_cons_succ
attribute [push_cast] List.getElem?_nil List.getElem_toArray List.getElem_cons_zero List.getElem_cons_succ List.set_cons_zero List.set_cons_succ List.take_succ_cons List.take_zero
attribute [push_cast] List.take_nil List.drop_succ_cons List.drop_zero List.drop_nil List.all_cons List.all_nil List.map_cons List.map_nil List.getElem?_toArray Option.bind_some
attribute [push_cast] Option.bind_none Option.map_some Option.map_none Option.isSome_some Option.getD_some Option.getD_none if_true if_false ite_true ite_false Nat.add_zero
attribute [push_cast] Nat.zero_add Nat.sub_zero Nat.lt_irrefl Nat.le_refl Int.toNat_natCast Int.toNat_zero Int.le_refl decide_true decide_false and_true true_and and_false false_and
attribute [push_cast] Bool.and_true Bool.true_and Bool.and_false Bool.false_and Bool.not_true Bool.not_false Bool.false_eq_true Bool.true_eq_false beq_self_eq_true forall_const
attribute [push_cast] not_true_eq_false not_false_eq_true and_self ne_eq Bool.not_not bne Heap.get_push_ite Heap.get_set_ite Heap.n_push Heap.n_set ne1 ne2 ne3 ne4 lt1 lt2 le1
attribute [push_cast] Nat.add_lt_add_iff_left Nat.add_le_add_iff_left List.mem_cons List.not_mem_nil eq_self or_false or_self or_true true_or false_or cast0 Int.sub_zero
attribute [push_cast] Int.add_zero Int.zero_add Nat.add_eq_left Nat.left_eq_add Nat.add_left_cancel_iff Nat.add_assoc Nat.succ_ne_zero Nat.lt_add_one
attribute [push_cast] eqAggD eqOp kvals fitL sameK eqvL eqv TI.cmp
end Go.Proofs.Ytcjlnaplkodgpaa.Cm
