/- Words over the told heap: what a call leaves as it was, rows of its own, answers that are told by their elements. -/
import Derived.Test.YtcjlnaplkodgpaaCmLaw
import Derived.Test.YtcjlnaplkodgpaaCmTab
namespace Go.Proofs.Ytcjlnaplkodgpaa.Cm
open Go.RowKit
set_option linter.unusedVariables false
set_option linter.unusedSimpArgs false

theorem Heap.get_push_ite {σ : Heap} {o : AObj} {p : Nat} : (σ.push o).get p = if p = σ.n then some o else σ.get p := by
  split
  · next h => subst h; simp
  · next h =>
    by_cases hl : p < σ.n
    · exact Heap.get_push_lt hl
    · have h1 : (σ.push o).get p = none := by
        cases h2 : (σ.push o).get p with
        | none => rfl
        | some x => have := Heap.lt h2; simp at this; omega
      have h3 : σ.get p = none := by
        cases h2 : σ.get p with
        | none => rfl
        | some x => have := Heap.lt h2; omega
      rw [h1, h3]
theorem Heap.get_set_ite {σ : Heap} {o : AObj} {t p : Nat} : (σ.set t o).get p = if p = t then (σ.get p).map (fun _ => o) else σ.get p := by
  split
  · next h =>
    subst h
    cases h2 : σ.get p with
    | some x => rw [Heap.get_set (Heap.lt h2)]; rfl
    | none =>
      cases h1 : (σ.set p o).get p with
      | none => rfl
      | some x =>
        have h3 := Heap.lt h1
        rw [Heap.n_set] at h3
        have : ∃ y, σ.get p = some y := ⟨_, List.getElem?_eq_getElem h3⟩
        obtain ⟨y, hy⟩ := this; rw [h2] at hy; cases hy
  · next h => exact Heap.get_set_ne (Ne.symm h)
theorem cast0 : ((0 : Nat) : Int) = 0 := rfl
theorem ne1 {p n : Nat} (h : p < n) : (p = n) = False := by simp; omega
theorem ne2 {p n k : Nat} (h : p < n) : (p = n + k) = False := by simp; omega
theorem ne3 {p n : Nat} (h : p < n) : (n = p) = False := by simp; omega
theorem ne4 {p n k : Nat} (h : p < n) : (n + k = p) = False := by simp; omega
theorem lt1 {p n k : Nat} (h : p < n) : (p < n + k) = True := by simp; omega
theorem lt2 {n k : Nat} : (n < n + (k + 1)) = True := by simp
theorem le1 {p n k : Nat} (h : p ≤ n) : (p ≤ n + k) = True := by simp; omega
theorem eq0 {n k : Nat} : (n + (k + 1) = n) = False := by simp
theorem eq1 {n k : Nat} : (n = n + (k + 1)) = False := by simp
/-- Nothing that was there was touched but the objects of X. -/
def Ext (X : List Nat) (σ σ' : Heap) : Prop := σ.n ≤ σ'.n ∧ ∀ p, p < σ.n → p ∉ X → σ'.get p = σ.get p
theorem Ext.refl (X : List Nat) (σ : Heap) : Ext X σ σ := ⟨Nat.le_refl _, fun _ _ _ => rfl⟩
theorem Ext.trans {X : List Nat} {a b c : Heap} (h : Ext X a b) (k : Ext X b c) : Ext X a c := ⟨Nat.le_trans h.1 k.1, fun p hp hx => (k.2 p (Nat.lt_of_lt_of_le hp h.1) hx).trans (h.2 p hp hx)⟩
/-- Behind h only new objects were touched. -/
theorem Ext.then {X Y : List Nat} {a b c : Heap} (h : Ext X a b) (k : Ext Y b c) (hy : ∀ p ∈ Y, p < a.n → p ∈ X) : Ext X a c := ⟨Nat.le_trans h.1 k.1, fun p hp hx => (k.2 p (Nat.lt_of_lt_of_le hp h.1) (fun hm => hx (hy p hm hp))).trans (h.2 p hp hx)⟩
theorem Ext.then1 {X Y : List Nat} {a b c : Heap} (k : Ext Y b c) (h : Ext X a b) (hy : ∀ p ∈ Y, p < a.n → p ∈ X) : Ext X a c := h.then k hy
theorem Ext.mono {X Y : List Nat} {a b : Heap} (h : Ext X a b) (hy : ∀ p ∈ X, p ∈ Y) : Ext Y a b := ⟨h.1, fun p hp hx => h.2 p hp (fun hm => hx (hy p hm))⟩
theorem Ext.push {X : List Nat} {a b : Heap} (h : Ext X a b) (o : AObj) : Ext X a (b.push o) := ⟨by rw [Heap.n_push]; have := h.1; omega, fun p hp hx => by rw [Heap.get_push_lt (by have := h.1; omega)]; exact h.2 p hp hx⟩
theorem Ext.set {X : List Nat} {a b : Heap} (h : Ext X a b) {t : Nat} (ht : a.n ≤ t ∨ t ∈ X) (o : AObj) : Ext X a (b.set t o) := ⟨by rw [Heap.n_set]; exact h.1, fun p hp hx => by
  have hne : t ≠ p := by
    intro e
    subst e
    rcases ht with ht | ht
    · omega
    · exact hx ht
  rw [Heap.get_set_ne hne]; exact h.2 p hp hx⟩
theorem Ext.get {X : List Nat} {a b : Heap} (h : Ext X a b) {p : Nat} {o : AObj} (hp : a.get p = some o) (hx : p ∉ X) : b.get p = some o := (h.2 p (Heap.lt hp) hx).trans hp

theorem Ext.ltT {X : List Nat} {a b : Heap} (h : Ext X a b) {p : Nat} (hp : p < a.n) : (p < b.n) = True := by simp; have := h.1; omega
theorem Ext.leT {X : List Nat} {a b : Heap} (h : Ext X a b) {p : Nat} (hp : p ≤ a.n) : (p ≤ b.n) = True := by simp; have := h.1; omega
/-- A row of its own, whole; nil where it is empty. -/
def Row (σ : Heap) (d : DV) (e : TypeId) (els : List (List DV)) : Prop := (d = .sc (.slice none 0 0) ∧ els = []) ∨ ∃ t, d = .sl t 0 els.length els.length ∧ σ.get t = some ⟨els, e, true⟩
/-- A row that was made behind σ0. -/
def NewRow (σ0 σ : Heap) (d : DV) (e : TypeId) (els : List (List DV)) : Prop := (d = .sc (.slice none 0 0) ∧ els = []) ∨ ∃ t, σ0.n ≤ t ∧ d = .sl t 0 els.length els.length ∧ σ.get t = some ⟨els, e, true⟩

/-- The object of a slice. -/
def tOf : DV → List Nat
  | .sl t _ _ _ => [t]
  | _ => []
/-- Slot d holds the elements els, in a row of its own (which may have more behind them). -/
def Hold (σ : Heap) (d : DV) (e : TypeId) (els : List (List DV)) : Prop := (d = .sc (.slice none 0 0) ∧ els = []) ∨ ∃ t full, d = .sl t 0 els.length full.length ∧ σ.get t = some ⟨full, e, true⟩ ∧ els.length ≤ full.length ∧ full.take els.length = els
theorem Hold.nil (σ : Heap) (e : TypeId) : Hold σ (.sc (.slice none 0 0)) e [] := .inl ⟨rfl, rfl⟩
theorem Hold.row {σ : Heap} {t : Nat} {e : TypeId} {els : List (List DV)} (h : σ.get t = some ⟨els, e, true⟩) : Hold σ (.sl t 0 els.length els.length) e els := .inr ⟨t, els, rfl, h, Nat.le_refl _, List.take_length⟩
theorem Hold.len {T : Tab} {σ : Heap} {d : DV} {e ty : TypeId} {els : List (List DV)} {e' : TypeId} {a b : Nat} {z : List Value} (h : Hold σ d e els) (h1 : T ty = some ⟨.slice e', a, b, z⟩) : lenD T ty d = some (els.length : Int) := by
  rcases h with ⟨rfl, rfl⟩ | ⟨t, full, rfl, _⟩ <;> simp [lenD, h1]
theorem Hold.frame {σ σ' : Heap} {d : DV} {e : TypeId} {els : List (List DV)} {X : List Nat} (h : Hold σ d e els) (hx : Ext X σ σ') (hd : ∀ q ∈ tOf d, q ∉ X) : Hold σ' d e els := by
  rcases h with ⟨rfl, rfl⟩ | ⟨t, full, rfl, hg, hle, htk⟩
  · exact .nil _ _
  · exact .inr ⟨t, full, rfl, hx.get hg (hd t (by simp [tOf])), hle, htk⟩
theorem Hold.lt {σ : Heap} {d : DV} {e : TypeId} {els : List (List DV)} (h : Hold σ d e els) : ∀ q ∈ tOf d, q < σ.n := by
  rcases h with ⟨rfl, rfl⟩ | ⟨t, full, rfl, hg, hle, htk⟩
  · simp [tOf]
  · intro q hq; simp [tOf] at hq; subst hq; exact Heap.lt hg
/-- Its object is none of another element type. -/
theorem Hold.ne {σ : Heap} {d : DV} {e : TypeId} {els : List (List DV)} (h : Hold σ d e els) {p : Nat} {o : AObj} (hp : σ.get p = some o) (hoe : o.e ≠ e) : p ∉ tOf d := by
  rcases h with ⟨rfl, rfl⟩ | ⟨t, full, rfl, hg, hle, htk⟩
  · simp [tOf]
  · intro hq; simp [tOf] at hq; subst hq; rw [hg] at hp; cases hp; exact hoe rfl
theorem Hold.cells {σ : Heap} {d : DV} {e : TypeId} {els : List (List DV)} (h : Hold σ d e els) : cellsD d = [d] := by rcases h with ⟨rfl, rfl⟩ | ⟨t, full, rfl, _⟩ <;> rfl
theorem Hold.leaf {σ : Heap} {d : DV} {e : TypeId} {els : List (List DV)} (h : Hold σ d e els) : Cm.leaf d = true := by rcases h with ⟨rfl, rfl⟩ | ⟨t, full, rfl, _⟩ <;> rfl
theorem Hold.append {T : Tab} {σ : Heap} {d x : DV} {e ty : TypeId} {els xs : List (List DV)} {a b : Nat} {z : List Value} {ei : TI} (h : Hold σ d e els) (h1 : T ty = some ⟨.slice e, a, b, z⟩) (h2 : T e = some ei) (hp : 0 < ei.size)
    (hx : sliceD σ x = some xs) (hne : 0 < xs.length) (hall : (xs.all fun el => el.length == ei.size) = true) (hb : (els.length + xs.length) * (ei.bytes + 1) ≤ 140737488355328) :
    ∃ d' σ', appendX T σ ty d x = some (d', σ') ∧ Hold σ' d' e (els ++ xs) ∧ Ext (tOf d) σ σ' ∧ (∀ q, q < σ.n → q ∈ tOf d' → q ∈ tOf d) := by
  have hn0 : ¬ xs.length = 0 := by omega
  rcases h with ⟨rfl, rfl⟩ | ⟨t, full, rfl, hg, hle, htk⟩
  · refine ⟨.sl σ.n 0 xs.length xs.length, σ.push ⟨xs, e, true⟩, ?_, ?_, (Ext.refl _ _).push _, fun q hq hm => ?_⟩
    · have hb' : xs.length * (ei.bytes + 1) ≤ 140737488355328 := by simpa using hb
      simp only [appendX, appendD, h1, h2, hx, hp, hall, and_self, if_true, if_neg hn0, if_pos hb']
    · rw [List.nil_append]; exact Hold.row Heap.get_push
    · simp [tOf] at hm; omega
  · have hlt := Heap.lt hg
    by_cases hE : els.length = full.length
    · have hf : full = els := by rw [hE, List.take_length] at htk; exact htk
      subst hf
      refine ⟨.sl t 0 (full.length + xs.length) (full.length + xs.length), σ.set t ⟨full ++ xs, e, true⟩, ?_, ?_, (Ext.refl _ _).set (.inr (by simp [tOf])) _, fun q hq hm => ?_⟩
      · simp only [appendX, appendD, getO, h1, h2, hx, hp, hall, and_self, if_true, hg, Option.isSome_some, if_neg hn0, if_pos hb]
      · have := Hold.row (σ := σ.set t ⟨full ++ xs, e, true⟩) (Heap.get_set (o := ⟨full ++ xs, e, true⟩) hlt)
        rwa [List.length_append] at this
      · simpa [tOf] using hm
    · have hl : els.length < full.length := by omega
      have hlen : (full.take els.length ++ xs ++ full.drop (els.length + xs.length)).length = els.length + xs.length + (full.length - (els.length + xs.length)) := by
        rw [htk]; simp; omega
      refine ⟨.sl t 0 (els.length + xs.length) (els.length + xs.length + (full.length - (els.length + xs.length))), σ.set t ⟨full.take els.length ++ xs ++ full.drop (els.length + xs.length), e, true⟩, ?_, ?_, (Ext.refl _ _).set (.inr (by simp [tOf])) _, fun q hq hm => ?_⟩
      · have hc1 : ¬ (0 = 0 ∧ els.length = full.length ∧ True ∧ True) := by simp [hE]
        have hc2 : 0 = 0 ∧ els.length < full.length ∧ (some true : Option Bool) = some true ∧ e = e ∧ 0 < xs.length ∧ (els.length + xs.length) * (ei.bytes + 1) ≤ 140737488355328 := ⟨rfl, hl, rfl, rfl, hne, hb⟩
        simp only [appendX, appendD, appendP, getO, h1, h2, hx, hp, hall, and_self, if_true, hg, Option.isSome_some, if_neg hn0, hE, and_false, false_and, if_false, if_pos hc2, hl, hne, hb]
      · refine .inr ⟨t, full.take els.length ++ xs ++ full.drop (els.length + xs.length), ?_, Heap.get_set hlt, ?_, ?_⟩
        · rw [hlen, List.length_append]
        · rw [hlen, List.length_append]; omega
        · rw [htk, List.length_append, List.take_append_of_le_length (by simp)]
          rw [← List.length_append, List.take_length]
      · simpa [tOf] using hm

theorem nil_imm {c : Cf} {v : Value} (h : V c (.sc (.slice none 0 0)) v) : V c (.imm []) v := by
  obtain ⟨rfl, _⟩ := h.plain_inv
  exact V.imm (l := []) (sz := 0) (us := []) (Nat.le_refl _) (by simp [maxLen]) (by simp) (by simp) (by simp) (fun _ => ⟨rfl, rfl⟩) (by simp) (by simp)

/-- What is told as x may be told as x'. -/
def Tells (x x' : DV) : Prop := ∀ (c : Cf) (v : Value), V c x v → V c x' v
theorem Tells.refl (x : DV) : Tells x x := fun _ _ h => h
theorem Tells.nil : Tells (.sc (.slice none 0 0)) (.imm []) := fun _ _ h => nil_imm h
theorem Tells.list {l l' : List DV} (hl : l'.length = l.length) (h : ∀ (j : Nat) (x x' : DV), l[j]? = some x → l'[j]? = some x' → Tells x x') {c : Cf} {us : List Value} (hu : us.length = l.length) (hv : ∀ (j : Nat) (x : DV) (u : Value), l[j]? = some x → us[j]? = some u → V c x u) : us.length = l'.length ∧ ∀ (j : Nat) (x : DV) (u : Value), l'[j]? = some x → us[j]? = some u → V c x u := by
  refine ⟨by rw [hu, hl], fun j x u hx hu' => ?_⟩
  have hj := (List.getElem?_eq_some_iff.1 hx).1
  rw [hl] at hj
  exact h j _ x (List.getElem?_eq_getElem hj) hx c u (hv j _ u (List.getElem?_eq_getElem hj) hu')
def TellsL : List DV → List DV → Prop
  | [], [] => True
  | x :: l, x' :: l' => Tells x x' ∧ TellsL l l'
  | _, _ => False
theorem TellsL.spec : ∀ {l l' : List DV}, TellsL l l' → l'.length = l.length ∧ ∀ (j : Nat) (x x' : DV), l[j]? = some x → l'[j]? = some x' → Tells x x'
  | [], [], _ => ⟨rfl, fun j x x' h => by simp at h⟩
  | x :: l, x' :: l', ⟨h1, h2⟩ => by
    obtain ⟨k1, k2⟩ := h2.spec
    refine ⟨by simp [k1], fun j y y' hy hy' => ?_⟩
    cases j with
    | zero => simp at hy hy'; subst hy; subst hy'; exact h1
    | succ j => exact k2 j y y' (by simpa using hy) (by simpa using hy')
  | [], _ :: _, h => h.elim
  | _ :: _, [], h => h.elim
theorem Tells.agg {l l' : List DV} (h : TellsL l l') : Tells (.agg l) (.agg l') := fun c v hv => by
  obtain ⟨h1, h2⟩ := h.spec
  cases hv with
  | agg hu hv => obtain ⟨a, b⟩ := Tells.list h1 h2 hu hv; exact .agg a b
theorem Tells.tup {l l' : List DV} (h : TellsL l l') : Tells (.tup l) (.tup l') := fun c v hv => by
  obtain ⟨h1, h2⟩ := h.spec
  cases hv with
  | tup hu hv => obtain ⟨a, b⟩ := Tells.list h1 h2 hu hv; exact .tup a b

section
variable {P : Program} {σ : Heap} {f : FuncId} {args : List DV} {X : List Nat} {e : TypeId} {els : List (List DV)}
/-- Arguments that may be told otherwise. -/
theorem ACalls.told {args' : List DV} {R : DV → Heap → Prop} (hl : TellsL args args') (h : ACalls P f args' σ R) : ACalls P f args σ R := fun c hc hσ vs hv => by
  obtain ⟨h1, h2⟩ := hl.spec
  exact h c hc hσ vs (by obtain ⟨a, b⟩ := Tells.list h1 h2 hv.1 hv.2; exact ⟨a, b⟩)
theorem ACalls.tells {R : DV → Heap → Prop} (h : ACalls P f args σ (fun x σ' => ∃ x', Tells x x' ∧ R x' σ')) : ACalls P f args σ R :=
  h.retell (fun c x v hok hv hR => by obtain ⟨x', h1, h2⟩ := hR; exact ⟨x', c, rfl, hok, Ev.refl c, h1 c v hv, h2⟩)
/-- An answer's row, told by its elements from now on. -/
theorem ACalls.toImm (h : ACalls P f args σ (fun x σ' => NewRow σ σ' x e els ∧ Ext X σ σ')) : ACalls P f args σ (fun x σ' => x = .imm els ∧ Ext X σ σ') := by
  refine h.retell (fun c x v hok hv hR => ?_)
  obtain ⟨hrow, hext⟩ := hR
  rcases hrow with ⟨rfl, rfl⟩ | ⟨t, ht, rfl, hget⟩
  · exact ⟨.imm [], c, rfl, hok, Ev.refl c, nil_imm hv, rfl, hext⟩
  · obtain ⟨h1, h2⟩ := Cm.freeze hok hget
    have hlt := Heap.lt hget
    refine ⟨.imm els, { c with σ := c.σ.set t { (⟨els, e, true⟩ : AObj) with own := false }, Z := fun b => c.Z b ∨ b = (c.μ t).blk }, rfl, h1, h2, ?_, rfl, hext.set (.inl ht) _⟩
    exact FZ.v h1 (ob := ⟨els, e, false⟩) (Heap.get_set hlt) rfl (.inr rfl) (FZ.all rfl) (hv.ev h2)
/-- The same of the first of two answers. -/
theorem ACalls.toImm2 {y : DV} (h : ACalls P f args σ (fun x σ' => (∃ d, x = .tup [d, y] ∧ NewRow σ σ' d e els) ∧ Ext X σ σ')) : ACalls P f args σ (fun x σ' => x = .tup [.imm els, y] ∧ Ext X σ σ') := by
  refine h.retell (fun c x v hok hv hR => ?_)
  obtain ⟨⟨d, rfl, hrow⟩, hext⟩ := hR
  rcases hrow with ⟨rfl, rfl⟩ | ⟨t, ht, rfl, hget⟩
  · refine ⟨.tup [.imm [], y], c, rfl, hok, Ev.refl c, ?_, rfl, hext⟩
    cases hv with
    | tup hl hv =>
      refine .tup (by simpa using hl) (fun j x u hx hu => ?_)
      cases j with
      | zero => simp at hx; subst hx; exact nil_imm (hv 0 _ u rfl hu)
      | succ j => exact hv (j + 1) x u (by simpa using hx) hu
  · obtain ⟨h1, h2⟩ := Cm.freeze hok hget
    have hlt := Heap.lt hget
    refine ⟨.tup [.imm els, y], { c with σ := c.σ.set t { (⟨els, e, true⟩ : AObj) with own := false }, Z := fun b => c.Z b ∨ b = (c.μ t).blk }, rfl, h1, h2, ?_, rfl, hext.set (.inl ht) _⟩
    refine FZ.v h1 (ob := ⟨els, e, false⟩) (Heap.get_set hlt) rfl (.inr rfl) (FZ.tup (l := [.sl t 0 els.length els.length, y]) (l' := [.imm els, y]) rfl (fun j x z hx hz => ?_)) (hv.ev h2)
    cases j with
    | zero => simp at hx hz; subst hx; subst hz; exact FZ.all rfl
    | succ j =>
      have : x = z := by simp at hx hz; rw [hx] at hz; exact Option.some.inj hz
      subst this; exact FZ.keep x
end

theorem Tells.any (x : DV) : Tells x .any := fun _ _ _ => .any
theorem tells_any (x : DV) : Tells x .any = True := by simp only [eq_iff_iff, iff_true]; exact Tells.any x
theorem tells_refl (x : DV) : Tells x x = True := by simp only [eq_iff_iff, iff_true]; exact Tells.refl x
/-- Slots that may be told otherwise. -/
theorem AW.told {P : Program} {code : Code} {ts ts' : List DV} {σ : Heap} {Q : Exit → List DV → Heap → Prop} (hl : TellsL ts ts') (h : AW P code ts' σ Q) : AW P code ts σ Q := fun c hc hσ a hT => by
  obtain ⟨h1, h2⟩ := hl.spec
  refine h c hc hσ a ⟨hT.defers, by rw [h1]; exact hT.size, fun i x hx => ?_⟩
  have hi := (List.getElem?_eq_some_iff.1 hx).1
  rw [h1] at hi
  obtain ⟨v, hv, hvv⟩ := hT.at_ i _ (List.getElem?_eq_getElem hi)
  exact ⟨v, hv, h2 i _ x (List.getElem?_eq_getElem hi) hx c v hvv⟩
theorem wrap_i64 {n : Int} (h0 : -9223372036854775808 ≤ n) (h1 : n ≤ 9223372036854775807) : IntKind.i64.wrap n = n := by
  show (if (true && decide (n % (2 ^ 64 : Int) ≥ (2 ^ 63 : Int))) = true then n % (2 ^ 64 : Int) - 2 ^ 64 else n % (2 ^ 64 : Int)) = n
  simp only [Bool.true_and, decide_eq_true_eq]
  split <;> omega
theorem wrap_u64 {n : Int} (h0 : 0 ≤ n) (h1 : n < 18446744073709551616) : IntKind.u64.wrap n = n := by
  simp only [IntKind.wrap, IntKind.bits, IntKind.signed]
  simp only [Bool.false_and, Bool.false_eq_true, if_false]
  omega
theorem wrap_u8 {n : Int} (h0 : 0 ≤ n) (h1 : n < 256) : IntKind.u8.wrap n = n := by
  simp only [IntKind.wrap, IntKind.bits, IntKind.signed]
  simp only [Bool.false_and, Bool.false_eq_true, if_false]
  omega
end Go.Proofs.Ytcjlnaplkodgpaa.Cm
