/- Words over the told heap: what a call leaves as it was, rows of its own, answers that are told by their elements. More words over the told heap. Rows that were made on the way grow. -/
import Derived.Test.YtdkhlhfdjggbpaaCmLaw
import Derived.Test.YtdkhlhfdjggbpaaCmTab
import Derived.Test.YtdkhlhfdjggbpaaCmMap
import Derived.Test.YtdkhlhfdjggbpaaCmKinds
namespace Go.Proofs.Ytdkhlhfdjggbpaa.Cm
open Go.RowKit
set_option linter.unusedVariables false
set_option linter.unusedSimpArgs false
set_option maxRecDepth 20000
set_option maxHeartbeats 8000000

theorem Heap.get_push_ite {σ : Heap} {o : AObj} {p : Nat} : (σ.push o).get p = if p = σ.n then some o else σ.get p := by
  split
  · next h => subst h; simp
  · next h =>
    by_cases hl : p < σ.n
    · exact Heap.get_push_lt hl
    · have h1 : (σ.push o).get p = none := by
        cases h2 : (σ.push o).get p with
        | none => rfl
        | some x => have := Heap.lt h2; simp at this; omega
      have h3 : σ.get p = none := by
        cases h2 : σ.get p with
        | none => rfl
        | some x => have := Heap.lt h2; omega
      rw [h1, h3]
theorem Heap.get_set_ite {σ : Heap} {o : AObj} {t p : Nat} : (σ.set t o).get p = if p = t then (σ.get p).map (fun _ => o) else σ.get p := by
  split
  · next h =>
    subst h
    cases h2 : σ.get p with
    | some x => rw [Heap.get_set (Heap.lt h2)]; rfl
    | none =>
      cases h1 : (σ.set p o).get p with
      | none => rfl
      | some x =>
        have h3 := Heap.lt h1
        rw [Heap.n_set] at h3
        have : ∃ y, σ.get p = some y := ⟨_, List.getElem?_eq_getElem h3⟩
        obtain ⟨y, hy⟩ := this; rw [h2] at hy; cases hy
  · next h => exact Heap.get_set_ne (Ne.symm h)
theorem cast0 : ((0 : Nat) : Int) = 0 := rfl
theorem ne1 {p n : Nat} (h : p < n) : (p = n) = False := by simp; omega
theorem ne2 {p n k : Nat} (h : p < n) : (p = n + k) = False := by simp; omega
theorem ne3 {p n : Nat} (h : p < n) : (n = p) = False := by simp; omega
theorem ne4 {p n k : Nat} (h : p < n) : (n + k = p) = False := by simp; omega
theorem lt1 {p n k : Nat} (h : p < n) : (p < n + k) = True := by simp; omega
theorem lt2 {n k : Nat} : (n < n + (k + 1)) = True := by simp
theorem le1 {p n k : Nat} (h : p ≤ n) : (p ≤ n + k) = True := by simp; omega
/-- Nothing that was there was touched but the objects of X. -/
def Ext (X : List Nat) (σ σ' : Heap) : Prop := σ.n ≤ σ'.n ∧ ∀ p, p < σ.n → p ∉ X → σ'.get p = σ.get p
theorem Ext.refl (X : List Nat) (σ : Heap) : Ext X σ σ := ⟨Nat.le_refl _, fun _ _ _ => rfl⟩
theorem Ext.trans {X : List Nat} {a b c : Heap} (h : Ext X a b) (k : Ext X b c) : Ext X a c := ⟨Nat.le_trans h.1 k.1, fun p hp hx => (k.2 p (Nat.lt_of_lt_of_le hp h.1) hx).trans (h.2 p hp hx)⟩
/-- Behind h only new objects were touched. -/
theorem Ext.then {X Y : List Nat} {a b c : Heap} (h : Ext X a b) (k : Ext Y b c) (hy : ∀ p ∈ Y, p < a.n → p ∈ X) : Ext X a c := ⟨Nat.le_trans h.1 k.1, fun p hp hx => (k.2 p (Nat.lt_of_lt_of_le hp h.1) (fun hm => hx (hy p hm hp))).trans (h.2 p hp hx)⟩
theorem Ext.then1 {X Y : List Nat} {a b c : Heap} (k : Ext Y b c) (h : Ext X a b) (hy : ∀ p ∈ Y, p < a.n → p ∈ X) : Ext X a c := h.then k hy
theorem Ext.mono {X Y : List Nat} {a b : Heap} (h : Ext X a b) (hy : ∀ p ∈ X, p ∈ Y) : Ext Y a b := ⟨h.1, fun p hp hx => h.2 p hp (fun hm => hx (hy p hm))⟩
theorem Ext.push {X : List Nat} {a b : Heap} (h : Ext X a b) (o : AObj) : Ext X a (b.push o) := ⟨by rw [Heap.n_push]; have := h.1; omega, fun p hp hx => by rw [Heap.get_push_lt (by have := h.1; omega)]; exact h.2 p hp hx⟩
theorem Ext.set {X : List Nat} {a b : Heap} (h : Ext X a b) {t : Nat} (ht : a.n ≤ t ∨ t ∈ X) (o : AObj) : Ext X a (b.set t o) := ⟨by rw [Heap.n_set]; exact h.1, fun p hp hx => by
  have hne : t ≠ p := by
    intro e
    subst e
    rcases ht with ht | ht
    · omega
    · exact hx ht
  rw [Heap.get_set_ne hne]; exact h.2 p hp hx⟩
theorem Ext.get {X : List Nat} {a b : Heap} (h : Ext X a b) {p : Nat} {o : AObj} (hp : a.get p = some o) (hx : p ∉ X) : b.get p = some o := (h.2 p (Heap.lt hp) hx).trans hp

theorem Ext.ltT {X : List Nat} {a b : Heap} (h : Ext X a b) {p : Nat} (hp : p < a.n) : (p < b.n) = True := by simp; have := h.1; omega
theorem Ext.leT {X : List Nat} {a b : Heap} (h : Ext X a b) {p : Nat} (hp : p ≤ a.n) : (p ≤ b.n) = True := by simp; have := h.1; omega
/-- A row that was made behind σ0. -/
def NewRow (σ0 σ : Heap) (d : DV) (e : TypeId) (els : List (List DV)) : Prop := (d = .sc (.slice none 0 0) ∧ els = []) ∨ ∃ t, σ0.n ≤ t ∧ d = .sl t 0 els.length els.length ∧ σ.get t = some ⟨els, e, true⟩

/-- The object of a slice. -/
def tOf : DV → List Nat
  | .sl t _ _ _ => [t]
  | _ => []
/-- Slot d holds the elements els, in a row of its own (which may have more behind them). -/
def Hold (σ : Heap) (d : DV) (e : TypeId) (els : List (List DV)) : Prop := (d = .sc (.slice none 0 0) ∧ els = []) ∨ ∃ t full, d = .sl t 0 els.length full.length ∧ σ.get t = some ⟨full, e, true⟩ ∧ els.length ≤ full.length ∧ full.take els.length = els
theorem Hold.nil (σ : Heap) (e : TypeId) : Hold σ (.sc (.slice none 0 0)) e [] := .inl ⟨rfl, rfl⟩
theorem Hold.row {σ : Heap} {t : Nat} {e : TypeId} {els : List (List DV)} (h : σ.get t = some ⟨els, e, true⟩) : Hold σ (.sl t 0 els.length els.length) e els := .inr ⟨t, els, rfl, h, Nat.le_refl _, List.take_length⟩
theorem Hold.len {T : Tab} {σ : Heap} {d : DV} {e ty : TypeId} {els : List (List DV)} {e' : TypeId} {a b : Nat} {z : List Value} (h : Hold σ d e els) (h1 : T ty = some ⟨.slice e', a, b, z⟩) : lenD T ty d = some (els.length : Int) := by
  rcases h with ⟨rfl, rfl⟩ | ⟨t, full, rfl, _⟩ <;> simp [lenD, h1]
theorem Hold.frame {σ σ' : Heap} {d : DV} {e : TypeId} {els : List (List DV)} {X : List Nat} (h : Hold σ d e els) (hx : Ext X σ σ') (hd : ∀ q ∈ tOf d, q ∉ X) : Hold σ' d e els := by
  rcases h with ⟨rfl, rfl⟩ | ⟨t, full, rfl, hg, hle, htk⟩
  · exact .nil _ _
  · exact .inr ⟨t, full, rfl, hx.get hg (hd t (by simp [tOf])), hle, htk⟩
theorem Hold.lt {σ : Heap} {d : DV} {e : TypeId} {els : List (List DV)} (h : Hold σ d e els) : ∀ q ∈ tOf d, q < σ.n := by
  rcases h with ⟨rfl, rfl⟩ | ⟨t, full, rfl, hg, hle, htk⟩
  · simp [tOf]
  · intro q hq; simp [tOf] at hq; subst hq; exact Heap.lt hg
/-- Its object is none of another element type. -/
theorem Hold.ne {σ : Heap} {d : DV} {e : TypeId} {els : List (List DV)} (h : Hold σ d e els) {p : Nat} {o : AObj} (hp : σ.get p = some o) (hoe : o.e ≠ e) : p ∉ tOf d := by
  rcases h with ⟨rfl, rfl⟩ | ⟨t, full, rfl, hg, hle, htk⟩
  · simp [tOf]
  · intro hq; simp [tOf] at hq; subst hq; rw [hg] at hp; cases hp; exact hoe rfl
theorem Hold.cells {σ : Heap} {d : DV} {e : TypeId} {els : List (List DV)} (h : Hold σ d e els) : cellsD d = [d] := by rcases h with ⟨rfl, rfl⟩ | ⟨t, full, rfl, _⟩ <;> rfl
theorem Hold.leaf {σ : Heap} {d : DV} {e : TypeId} {els : List (List DV)} (h : Hold σ d e els) : Cm.leaf d = true := by rcases h with ⟨rfl, rfl⟩ | ⟨t, full, rfl, _⟩ <;> rfl
theorem Hold.append {T : Tab} {σ : Heap} {d x : DV} {e ty : TypeId} {els xs : List (List DV)} {a b : Nat} {z : List Value} {ei : TI} (h : Hold σ d e els) (h1 : T ty = some ⟨.slice e, a, b, z⟩) (h2 : T e = some ei) (hp : 0 < ei.size)
    (hx : sliceD σ x = some xs) (hne : 0 < xs.length) (hall : (xs.all fun el => el.length == ei.size) = true) (hb : (els.length + xs.length) * (ei.bytes + 1) ≤ 140737488355328) :
    ∃ d' σ', appendX T σ ty d x = some (d', σ') ∧ Hold σ' d' e (els ++ xs) ∧ Ext (tOf d) σ σ' ∧ (∀ q, q < σ.n → q ∈ tOf d' → q ∈ tOf d) := by
  have hn0 : ¬ xs.length = 0 := by omega
  rcases h with ⟨rfl, rfl⟩ | ⟨t, full, rfl, hg, hle, htk⟩
  · refine ⟨.sl σ.n 0 xs.length xs.length, σ.push ⟨xs, e, true⟩, ?_, ?_, (Ext.refl _ _).push _, fun q hq hm => ?_⟩
    · have hb' : xs.length * (ei.bytes + 1) ≤ 140737488355328 := by simpa using hb
      simp only [appendX, appendD, h1, h2, hx, hp, hall, and_self, if_true, if_neg hn0, if_pos hb']
    · rw [List.nil_append]; exact Hold.row Heap.get_push
    · simp [tOf] at hm; omega
  · have hlt := Heap.lt hg
    by_cases hE : els.length = full.length
    · have hf : full = els := by rw [hE, List.take_length] at htk; exact htk
      subst hf
      refine ⟨.sl t 0 (full.length + xs.length) (full.length + xs.length), σ.set t ⟨full ++ xs, e, true⟩, ?_, ?_, (Ext.refl _ _).set (.inr (by simp [tOf])) _, fun q hq hm => ?_⟩
      · simp only [appendX, appendD, getO, h1, h2, hx, hp, hall, and_self, if_true, hg, Option.isSome_some, if_neg hn0, if_pos hb]
      · have := Hold.row (σ := σ.set t ⟨full ++ xs, e, true⟩) (Heap.get_set (o := ⟨full ++ xs, e, true⟩) hlt)
        rwa [List.length_append] at this
      · simpa [tOf] using hm
    · have hl : els.length < full.length := by omega
      have hlen : (full.take els.length ++ xs ++ full.drop (els.length + xs.length)).length = els.length + xs.length + (full.length - (els.length + xs.length)) := by
        rw [htk]; simp; omega
      refine ⟨.sl t 0 (els.length + xs.length) (els.length + xs.length + (full.length - (els.length + xs.length))), σ.set t ⟨full.take els.length ++ xs ++ full.drop (els.length + xs.length), e, true⟩, ?_, ?_, (Ext.refl _ _).set (.inr (by simp [tOf])) _, fun q hq hm => ?_⟩
      · have hc1 : ¬ (0 = 0 ∧ els.length = full.length ∧ True ∧ True) := by simp [hE]
        have hc2 : 0 = 0 ∧ els.length < full.length ∧ (some true : Option Bool) = some true ∧ e = e ∧ 0 < xs.length ∧ (els.length + xs.length) * (ei.bytes + 1) ≤ 140737488355328 := ⟨rfl, hl, rfl, rfl, hne, hb⟩
        simp only [appendX, appendD, appendP, getO, h1, h2, hx, hp, hall, and_self, if_true, hg, Option.isSome_some, if_neg hn0, hE, and_false, false_and, if_false, if_pos hc2, hl, hne, hb]
      · refine .inr ⟨t, full.take els.length ++ xs ++ full.drop (els.length + xs.length), ?_, Heap.get_set hlt, ?_, ?_⟩
        · rw [hlen, List.length_append]
        · rw [hlen, List.length_append]; omega
        · rw [htk, List.length_append, List.take_append_of_le_length (by simp)]
          rw [← List.length_append, List.take_length]
      · simpa [tOf] using hm

theorem nil_imm {c : Cf} {v : Value} (h : V c (.sc (.slice none 0 0)) v) : V c (.imm []) v := by
  obtain ⟨rfl, _⟩ := h.plain_inv
  exact V.imm (l := []) (sz := 0) (us := []) (Nat.le_refl _) (by simp [maxLen]) (by simp) (by simp) (by simp) (fun _ => ⟨rfl, rfl⟩) (by simp) (by simp)

/-- What is told as x may be told as x'. -/
def Tells (x x' : DV) : Prop := ∀ (c : Cf) (v : Value), V c x v → V c x' v
theorem Tells.refl (x : DV) : Tells x x := fun _ _ h => h
theorem Tells.nil : Tells (.sc (.slice none 0 0)) (.imm []) := fun _ _ h => nil_imm h
theorem Tells.list {l l' : List DV} (hl : l'.length = l.length) (h : ∀ (j : Nat) (x x' : DV), l[j]? = some x → l'[j]? = some x' → Tells x x') {c : Cf} {us : List Value} (hu : us.length = l.length) (hv : ∀ (j : Nat) (x : DV) (u : Value), l[j]? = some x → us[j]? = some u → V c x u) : us.length = l'.length ∧ ∀ (j : Nat) (x : DV) (u : Value), l'[j]? = some x → us[j]? = some u → V c x u := by
  refine ⟨by rw [hu, hl], fun j x u hx hu' => ?_⟩
  have hj := (List.getElem?_eq_some_iff.1 hx).1
  rw [hl] at hj
  exact h j _ x (List.getElem?_eq_getElem hj) hx c u (hv j _ u (List.getElem?_eq_getElem hj) hu')
def TellsL : List DV → List DV → Prop
  | [], [] => True
  | x :: l, x' :: l' => Tells x x' ∧ TellsL l l'
  | _, _ => False
theorem TellsL.spec : ∀ {l l' : List DV}, TellsL l l' → l'.length = l.length ∧ ∀ (j : Nat) (x x' : DV), l[j]? = some x → l'[j]? = some x' → Tells x x'
  | [], [], _ => ⟨rfl, fun j x x' h => by simp at h⟩
  | x :: l, x' :: l', ⟨h1, h2⟩ => by
    obtain ⟨k1, k2⟩ := h2.spec
    refine ⟨by simp [k1], fun j y y' hy hy' => ?_⟩
    cases j with
    | zero => simp at hy hy'; subst hy; subst hy'; exact h1
    | succ j => exact k2 j y y' (by simpa using hy) (by simpa using hy')
  | [], _ :: _, h => h.elim
  | _ :: _, [], h => h.elim
theorem Tells.agg {l l' : List DV} (h : TellsL l l') : Tells (.agg l) (.agg l') := fun c v hv => by
  obtain ⟨h1, h2⟩ := h.spec
  cases hv with
  | agg hu hv => obtain ⟨a, b⟩ := Tells.list h1 h2 hu hv; exact .agg a b
theorem Tells.tup {l l' : List DV} (h : TellsL l l') : Tells (.tup l) (.tup l') := fun c v hv => by
  obtain ⟨h1, h2⟩ := h.spec
  cases hv with
  | tup hu hv => obtain ⟨a, b⟩ := Tells.list h1 h2 hu hv; exact .tup a b

section
variable {P : Program} {σ : Heap} {f : FuncId} {args : List DV} {X : List Nat} {e : TypeId} {els : List (List DV)}
/-- Arguments that may be told otherwise. -/
theorem ACalls.told {args' : List DV} {R : DV → Heap → Prop} (hl : TellsL args args') (h : ACalls P f args' σ R) : ACalls P f args σ R := fun c hc hσ vs hv => by
  obtain ⟨h1, h2⟩ := hl.spec
  exact h c hc hσ vs (by obtain ⟨a, b⟩ := Tells.list h1 h2 hv.1 hv.2; exact ⟨a, b⟩)
theorem ACalls.tells {R : DV → Heap → Prop} (h : ACalls P f args σ (fun x σ' => ∃ x', Tells x x' ∧ R x' σ')) : ACalls P f args σ R :=
  h.retell (fun c x v hok hv hR => by obtain ⟨x', h1, h2⟩ := hR; exact ⟨x', c, rfl, hok, Ev.refl c, h1 c v hv, h2⟩)
/-- An answer's row, told by its elements from now on. -/
theorem ACalls.toImm (h : ACalls P f args σ (fun x σ' => NewRow σ σ' x e els ∧ Ext X σ σ')) : ACalls P f args σ (fun x σ' => x = .imm els ∧ Ext X σ σ') := by
  refine h.retell (fun c x v hok hv hR => ?_)
  obtain ⟨hrow, hext⟩ := hR
  rcases hrow with ⟨rfl, rfl⟩ | ⟨t, ht, rfl, hget⟩
  · exact ⟨.imm [], c, rfl, hok, Ev.refl c, nil_imm hv, rfl, hext⟩
  · obtain ⟨h1, h2⟩ := Cm.freeze hok hget
    have hlt := Heap.lt hget
    refine ⟨.imm els, { c with σ := c.σ.set t { (⟨els, e, true⟩ : AObj) with own := false }, Z := fun b => c.Z b ∨ b = (c.μ t).blk }, rfl, h1, h2, ?_, rfl, hext.set (.inl ht) _⟩
    exact FZ.v h1 (ob := ⟨els, e, false⟩) (Heap.get_set hlt) rfl (.inr rfl) (FZ.all rfl) (hv.ev h2)
end

theorem Tells.any (x : DV) : Tells x .any := fun _ _ _ => .any
theorem tells_any (x : DV) : Tells x .any = True := by simp only [eq_iff_iff, iff_true]; exact Tells.any x
theorem tells_refl (x : DV) : Tells x x = True := by simp only [eq_iff_iff, iff_true]; exact Tells.refl x
/-- Slots that may be told otherwise. -/
theorem AW.told {P : Program} {code : Code} {ts ts' : List DV} {σ : Heap} {Q : Exit → List DV → Heap → Prop} (hl : TellsL ts ts') (h : AW P code ts' σ Q) : AW P code ts σ Q := fun c hc hσ a hT => by
  obtain ⟨h1, h2⟩ := hl.spec
  refine h c hc hσ a ⟨hT.defers, by rw [h1]; exact hT.size, fun i x hx => ?_⟩
  have hi := (List.getElem?_eq_some_iff.1 hx).1
  rw [h1] at hi
  obtain ⟨v, hv, hvv⟩ := hT.at_ i _ (List.getElem?_eq_getElem hi)
  exact ⟨v, hv, h2 i _ x (List.getElem?_eq_getElem hi) hx c v hvv⟩
theorem wrap_i64 {n : Int} (h0 : -9223372036854775808 ≤ n) (h1 : n ≤ 9223372036854775807) : IntKind.i64.wrap n = n := by
  show (if (true && decide (n % (2 ^ 64 : Int) ≥ (2 ^ 63 : Int))) = true then n % (2 ^ 64 : Int) - 2 ^ 64 else n % (2 ^ 64 : Int)) = n
  simp only [Bool.true_and, decide_eq_true_eq]
  split <;> omega
theorem wrap_u64 {n : Int} (h0 : 0 ≤ n) (h1 : n < 18446744073709551616) : IntKind.u64.wrap n = n := by
  simp only [IntKind.wrap, IntKind.bits, IntKind.signed]
  simp only [Bool.false_and, Bool.false_eq_true, if_false]
  omega
theorem wrap_u8 {n : Int} (h0 : 0 ≤ n) (h1 : n < 256) : IntKind.u8.wrap n = n := by
  simp only [IntKind.wrap, IntKind.bits, IntKind.signed]
  simp only [Bool.false_and, Bool.false_eq_true, if_false]
  omega
section
variable {P : Program} {σ : Heap} {f : FuncId} {args : List DV} {e : TypeId} {els : List (List DV)}
end
/-- An element's cells. -/
theorem Hold.at_ {σ : Heap} {d : DV} {e : TypeId} {els : List (List DV)} (h : Hold σ d e els) {i : Nat} (hi : i < els.length) : ∃ t full, d = .sl t 0 els.length full.length ∧ σ.get t = some ⟨full, e, true⟩ ∧ full[i]? = some els[i] := by
  rcases h with ⟨rfl, rfl⟩ | ⟨t, full, rfl, hg, hle, htk⟩
  · simp at hi
  · refine ⟨t, full, rfl, hg, ?_⟩
    have : (full.take els.length)[i]? = els[i]? := by rw [htk]
    rw [List.getElem?_take, if_pos hi] at this
    rw [this, List.getElem?_eq_getElem hi]
def FZL (t m : Nat) (els : List (List DV)) : List DV → List DV → Prop
  | [], [] => True
  | x :: l, x' :: l' => FZ t m els x x' ∧ FZL t m els l l'
  | _, _ => False
theorem FZL.spec {t m : Nat} {els : List (List DV)} : ∀ {l l' : List DV}, FZL t m els l l' → l.length = l'.length ∧ ∀ (j : Nat) (x y : DV), l[j]? = some x → l'[j]? = some y → FZ t m els x y
  | [], [], _ => ⟨rfl, fun j x x' h => by simp at h⟩
  | x :: l, x' :: l', ⟨h1, h2⟩ => by
    obtain ⟨k1, k2⟩ := h2.spec
    refine ⟨by simp [k1], fun j y y' hy hy' => ?_⟩
    cases j with
    | zero => simp at hy hy'; subst hy; subst hy'; exact h1
    | succ j => exact k2 j y y' (by simpa using hy) (by simpa using hy')
  | [], _ :: _, h => h.elim
  | _ :: _, [], h => h.elim
/-- An answer with a row in it that was made on the way: told by its elements from now on. -/
theorem ACalls.toImmG {P : Program} {σ : Heap} {f : FuncId} {args : List DV} {e : TypeId} {els : List (List DV)} (F : DV → DV) (hF : ∀ t m es d d', FZ t m es d d' → FZ t m es (F d) (F d')) (hN : Tells (F (.sc (.slice none 0 0))) (F (.imm [])))
    (h : ACalls P f args σ (fun x σ' => ∃ d, x = F d ∧ Hold σ' d e els ∧ (∀ q ∈ tOf d, σ.n ≤ q) ∧ Ext [] σ σ')) : ACalls P f args σ (fun x σ' => x = F (.imm els) ∧ Ext [] σ σ') := by
  refine h.retell (fun c x v hok hv hR => ?_)
  obtain ⟨d, rfl, hrow, hnew, hext⟩ := hR
  rcases hrow with ⟨rfl, rfl⟩ | ⟨t, full, rfl, hget, hle, htk⟩
  · exact ⟨F (.imm []), c, rfl, hok, Ev.refl c, hN c v hv, rfl, hext⟩
  · obtain ⟨h1, h2⟩ := Cm.freeze hok hget
    have hlt := Heap.lt hget
    refine ⟨F (.imm els), { c with σ := c.σ.set t { (⟨full, e, true⟩ : AObj) with own := false }, Z := fun b => c.Z b ∨ b = (c.μ t).blk }, rfl, h1, h2, ?_, rfl, hext.set (.inl (hnew t (by simp [tOf]))) _⟩
    have h3 : FZ t full.length full (.sl t 0 els.length full.length) (.imm els) := by
      have := FZ.sl (t := t) (m := full.length) (els := full) (off := 0) (len := els.length) (by simpa using hle)
      simpa [htk] using this
    exact FZ.v h1 (ob := ⟨full, e, false⟩) (Heap.get_set hlt) rfl (.inr rfl) (hF _ _ _ _ _ h3) (hv.ev h2)
/-- A heap by a name. -/
theorem AW.name {P : Program} {code : Code} {ts : List DV} {σ : Heap} {Q : Exit → List DV → Heap → Prop} (h : ∀ σ0, σ0 = σ → AW P code ts σ0 Q) : AW P code ts σ Q := h σ rfl
/-- A sequence, cut in the middle. -/
theorem AW.seqK {P : Program} {x y : Code} {ts : List DV} {σ : Heap} {Q : Exit → List DV → Heap → Prop} (K : List DV → Heap → Prop) (hx : AW P x ts σ (thenA K Q)) (hy : ∀ ts σ, K ts σ → AW P y ts σ Q) : AW P (.seq x y) ts σ Q :=
  AW.seq (hx.mono (fun e ts σ h => by cases e <;> first | exact hy _ _ h | exact h))
theorem AW.at1 {P : Program} {id : Nat} {ops : Array Oper} {d : Bool} {y : Code} {ts : List DV} {σ : Heap} {Q : Exit → List DV → Heap → Prop} (h : AW P (.seq (.region id ops d) y) ts σ Q) : AW P (.seq (.region id ops d) y) ts σ Q := h
theorem AW.at3 {P : Program} {id : Nat} {x y : Code} {ts : List DV} {σ : Heap} {Q : Exit → List DV → Heap → Prop} (h : AW P (.seq (.block id x) y) ts σ Q) : AW P (.seq (.block id x) y) ts σ Q := h
theorem AW.at2 {P : Program} {id : Nat} {ops : Array Oper} {d : Bool} {x y : Code} {ts : List DV} {σ : Heap} {Q : Exit → List DV → Heap → Prop} (h : AW P (.seq (.seq (.region id ops d) x) y) ts σ Q) : AW P (.seq (.seq (.region id ops d) x) y) ts σ Q := h
/-- What an object holds, told otherwise. -/
theorem AW.retell {P : Program} {code : Code} {ts : List DV} {σ : Heap} {Q : Exit → List DV → Heap → Prop} {t : Nat} {el el' : List DV} {e : TypeId} {b : Bool} (ho : σ.get t = some ⟨[el], e, b⟩) (hl : TellsL el el') (h : AW P code ts (σ.set t ⟨[el'], e, b⟩) Q) : AW P code ts σ Q := fun c hc hσ a hT => by
  subst hσ
  obtain ⟨h1, h2⟩ := hl.spec
  obtain ⟨k1, k2⟩ := Cm.retell (o' := ⟨[el'], e, b⟩) hc ho rfl rfl rfl (fun i l l' hi hi' => by
    cases i with
    | zero => simp at hi hi'; subst hi; subst hi'; exact ⟨h1, fun j x x' u hx hx' hv => h2 j x x' hx hx' c u hv⟩
    | succ i => simp at hi)
  have := h _ k1 rfl a (hT.ev k2)
  exact wp_mono this (fun e a' w' hh => by obtain ⟨ts', c', r1, r2, r3, r4, r5⟩ := hh; exact ⟨ts', c', r1, r2, k2.trans r3, r4, r5⟩)
theorem lenH {σ : Heap} {d : DV} {e ty : TypeId} {e' : TypeId} {a b : Nat} {z : List Value} {α : Type} {l : List α} {g : α → List DV} (h : Hold σ d e (l.map g)) (h1 : T ty = some ⟨.slice e', a, b, z⟩) : lenD T ty d = some (l.length : Int) := by
  have := h.len (T := T) (ty := ty) h1
  rwa [List.length_map] at this
/-- Told once more, from a configuration that has come of it. -/
theorem AW.on {P : Program} {code : Code} {ts : List DV} {σ : Heap} {Q : Exit → List DV → Heap → Prop}
    (h : ∀ c, Ok P c → c.σ = σ → ∀ a, TR c ts a → ∃ c' ts', c'.w = c.w ∧ Ok P c' ∧ Ev c c' ∧ TR c' ts' a ∧ AW P code ts' c'.σ Q) : AW P code ts σ Q := fun c hc hσ a hT => by
  obtain ⟨c', ts', hw, k1, k2, k3, hA⟩ := h c hc hσ a hT
  have := hA c' k1 rfl a k3
  rw [hw] at this
  exact wp_mono this (fun e a' w' hh => by obtain ⟨ts'', c'', r1, r2, r3, r4, r5⟩ := hh; exact ⟨ts'', c'', r1, r2, k2.trans r3, r4, r5⟩)
theorem getElem?_mid {α : Type} {pre post : List α} {x y : α} {j : Nat} (h : j ≠ pre.length) : (pre ++ x :: post)[j]? = (pre ++ y :: post)[j]? := by
  by_cases hj : j < pre.length
  · rw [List.getElem?_append_left hj, List.getElem?_append_left hj]
  · rw [List.getElem?_append_right (by omega), List.getElem?_append_right (by omega)]
    obtain ⟨k, hk⟩ : ∃ k, j - pre.length = k + 1 := ⟨j - pre.length - 1, by omega⟩
    rw [hk]; rfl
/-- The row in a cell of an object is written no more: told by its elements. -/
theorem holdCell {P : Program} {c : Cf} (hc : Ok P c) {p : Nat} {pre post : List DV} {d : DV} {els : List (List DV)} {e ep : TypeId} {b : Bool} (hh : Hold c.σ d e els) (hp : c.σ.get p = some ⟨[pre ++ d :: post], ep, b⟩) (hpd : p ∉ tOf d) :
    ∃ c', c'.w = c.w ∧ Ok P c' ∧ Ev c c' ∧ Ext (p :: tOf d) c.σ c'.σ ∧ c'.σ.get p = some ⟨[pre ++ .imm els :: post], ep, b⟩ := by
  have cell : ∀ (c1 : Cf), Ok P c1 → c1.σ.get p = some ⟨[pre ++ d :: post], ep, b⟩ → (∀ u, V c1 d u → V c1 (.imm els) u) → ∃ c', c'.w = c1.w ∧ Ok P c' ∧ Ev c1 c' ∧ Ext [p] c1.σ c'.σ ∧ c'.σ.get p = some ⟨[pre ++ .imm els :: post], ep, b⟩ := fun c1 h1 hp1 hv => by
    obtain ⟨k1, k2⟩ := Cm.retell (o' := ⟨[pre ++ .imm els :: post], ep, b⟩) h1 hp1 rfl rfl rfl (fun i l l' hi hi' => by
      cases i with
      | succ i => simp at hi
      | zero =>
        simp at hi hi'; subst hi; subst hi'
        refine ⟨by simp, fun j x x' u hx hx' hvx => ?_⟩
        by_cases hj : j = pre.length
        · subst hj
          simp at hx hx'; subst hx; subst hx'; exact hv u hvx
        · rw [getElem?_mid (y := d) hj, hx] at hx'
          cases hx'; exact hvx)
    exact ⟨{ c1 with σ := c1.σ.set p ⟨[pre ++ .imm els :: post], ep, b⟩ }, rfl, k1, k2, (Ext.refl _ _).set (.inr (by simp)) _, Heap.get_set (Heap.lt hp1)⟩
  rcases hh with ⟨rfl, rfl⟩ | ⟨t, full, rfl, hg, hle, htk⟩
  · obtain ⟨c', r1, r2, r3, r4, r5⟩ := cell c hc hp (fun u hu => nil_imm hu)
    exact ⟨c', r1, r2, r3, r4.mono (by simp [tOf]), r5⟩
  · have htp : t ≠ p := by intro e; subst e; simp [tOf] at hpd
    obtain ⟨h1, h2⟩ := Cm.freeze hc hg
    have hp1 : (c.σ.set t { (⟨full, e, true⟩ : AObj) with own := false }).get p = some ⟨[pre ++ .sl t 0 els.length full.length :: post], ep, b⟩ := by rw [Heap.get_set_ne htp]; exact hp
    obtain ⟨c', r1, r2, r3, r4, r5⟩ := cell _ h1 hp1 (fun u hu => by
      have := FZ.v h1 (ob := ⟨full, e, false⟩) (Heap.get_set (Heap.lt hg)) rfl (.inr rfl) (FZ.sl (off := 0) (len := els.length) (by simpa using hle)) hu
      simpa [htk] using this)
    refine ⟨c', r1, r2, h2.trans r3, ?_, r5⟩
    have e1 : Ext (p :: tOf (.sl t 0 els.length full.length)) c.σ (c.σ.set t { (⟨full, e, true⟩ : AObj) with own := false }) := (Ext.refl _ _).set (.inr (by simp [tOf])) _
    exact e1.trans (r4.mono (by simp))
theorem ACalls.holdCell {P : Program} {f : FuncId} {args : List DV} {σ : Heap} {R : DV → Heap → Prop}
    (h : ACalls P f args σ (fun x σ' => ∃ p pre d post ep b els e, Hold σ' d e els ∧ σ'.get p = some ⟨[pre ++ d :: post], ep, some b⟩ ∧ p ∉ tOf d ∧ ∀ σ'', Ext (p :: tOf d) σ' σ'' → σ''.get p = some ⟨[pre ++ .imm els :: post], ep, some b⟩ → R x σ'')) : ACalls P f args σ R := by
  refine h.retell (fun c x v hok hv hR => ?_)
  obtain ⟨p, pre, d, post, ep, b, els, e, hh, hp, hpd, hR'⟩ := hR
  obtain ⟨c', r1, r2, r3, r4, r5⟩ := Cm.holdCell hok hh hp hpd
  exact ⟨x, c', r1, r2, r3, hv.ev r3, hR' _ r4 r5⟩
theorem AW.holdCell {P : Program} {code : Code} {ts : List DV} {σ : Heap} {Q : Exit → List DV → Heap → Prop} {p : Nat} {pre post : List DV} {d : DV} {els : List (List DV)} {e ep : TypeId} {b : Bool} (hh : Hold σ d e els) (hp : σ.get p = some ⟨[pre ++ d :: post], ep, b⟩) (hpd : p ∉ tOf d)
    (h : ∀ σ', Ext (p :: tOf d) σ σ' → σ'.get p = some ⟨[pre ++ .imm els :: post], ep, b⟩ → AW P code ts σ' Q) : AW P code ts σ Q := AW.on (fun c hc hσ a hT => by
  subst hσ
  obtain ⟨c', r1, r2, r3, r4, r5⟩ := Cm.holdCell hc hh hp hpd
  exact ⟨c', ts, r1, r2, r3, hT.ev r3, h _ r4 r5⟩)
theorem wrap_u8_mod (n : Int) : IntKind.u8.wrap n = n % 256 := by
  simp only [IntKind.wrap, IntKind.bits, IntKind.signed]
  simp only [Bool.false_and, Bool.false_eq_true, if_false]; rfl
theorem Hold.append0 {T : Tab} {σ : Heap} {d x : DV} {e ty : TypeId} {els xs : List (List DV)} {a b : Nat} {z : List Value} {ei : TI} (h : Hold σ d e els) (h1 : T ty = some ⟨.slice e, a, b, z⟩) (h2 : T e = some ei) (hp : 0 < ei.size)
    (hx : sliceD σ x = some xs) (hall : (xs.all fun el => el.length == ei.size) = true) (hb : (els.length + xs.length) * (ei.bytes + 1) ≤ 140737488355328) :
    ∃ d' σ', appendX T σ ty d x = some (d', σ') ∧ Hold σ' d' e (els ++ xs) ∧ Ext (tOf d) σ σ' ∧ (∀ q, q < σ.n → q ∈ tOf d' → q ∈ tOf d) := by
  by_cases hn : xs.length = 0
  · have hn' : xs = [] := List.eq_nil_of_length_eq_zero hn
    subst hn'
    refine ⟨d, σ, ?_, by simpa using h, Ext.refl _ _, fun _ _ h => h⟩
    rcases h with ⟨rfl, rfl⟩ | ⟨t, full, rfl, hg, hle, htk⟩
    · simp only [appendX, appendD, h1, h2, hx, hp, hall, and_self, if_true, List.length_nil]
    · by_cases hE : els.length = full.length
      · simp only [appendX, appendD, appendP, getO, h1, h2, hx, hp, hall, hg, hE, Option.isSome_some, and_self, if_true, List.length_nil]
      · simp only [appendX, appendD, appendP, getO, h1, h2, hx, hp, hall, hg, hE, Option.isSome_some, and_self, and_false, false_and, if_true, if_false, List.length_nil]
  · exact h.append h1 h2 hp hx (by omega) hall hb
/-- Slot d is a slice of those elements, whatever else is made. -/
def Src (σ : Heap) (d : DV) (els : List (List DV)) : Prop := ∀ σ', Ext [] σ σ' → sliceD σ' d = some els
theorem Src.imm (σ : Heap) (els : List (List DV)) : Src σ (.imm els) els := fun _ _ => rfl
theorem Hold.slice {σ : Heap} {d : DV} {e : TypeId} {els : List (List DV)} (h : Hold σ d e els) : sliceD σ d = some els := by
  rcases h with ⟨rfl, rfl⟩ | ⟨t, full, rfl, hg, hle, htk⟩
  · rfl
  · simp [sliceD, getO, hg, htk, hle]
theorem Hold.src {σ : Heap} {d : DV} {e : TypeId} {els : List (List DV)} (h : Hold σ d e els) : Src σ d els := fun σ' hx => (h.frame hx (by simp)).slice
theorem Src.push {σ : Heap} {d : DV} {els : List (List DV)} (h : Src σ d els) (o : AObj) : sliceD (σ.push o) d = some els := h _ ((Ext.refl _ _).push o)
theorem Src.now {σ : Heap} {d : DV} {els : List (List DV)} (h : Src σ d els) : sliceD σ d = some els := h _ (Ext.refl _ _)
theorem Src.ext {σ σ' : Heap} {d : DV} {els : List (List DV)} (h : Src σ d els) (hx : Ext [] σ σ') : Src σ' d els := fun σ'' h2 => h _ (hx.trans h2)
def TellsLL : List (List DV) → List (List DV) → Prop
  | [], [] => True
  | x :: l, x' :: l' => TellsL x x' ∧ TellsLL l l'
  | _, _ => False
theorem TellsLL.spec : ∀ {l l' : List (List DV)}, TellsLL l l' → l'.length = l.length ∧ ∀ (i : Nat) (x x' : List DV), l[i]? = some x → l'[i]? = some x' → TellsL x x'
  | [], [], _ => ⟨rfl, fun j x x' h => by simp at h⟩
  | x :: l, x' :: l', ⟨h1, h2⟩ => by
    obtain ⟨k1, k2⟩ := h2.spec
    refine ⟨by simp [k1], fun j y y' hy hy' => ?_⟩
    cases j with
    | zero => simp at hy hy'; subst hy; subst hy'; exact h1
    | succ j => exact k2 j y y' (by simpa using hy) (by simpa using hy')
  | [], _ :: _, h => h.elim
  | _ :: _, [], h => h.elim
theorem Tells.imm {l l' : List (List DV)} (h : TellsLL l l') : Tells (.imm l) (.imm l') := fun c v hv => by
  obtain ⟨hl, hr⟩ := h.spec
  cases hv with
  | imm hc hm hsz hul hA h0 h1 hv =>
    rename_i sz A cp us
    have hrow : ∀ (i : Nat) (x' : List DV), l'[i]? = some x' → ∃ x, l[i]? = some x ∧ TellsL x x' := fun i x' hx' => by
      have hlt : i < l.length := by rw [← hl]; exact (List.getElem?_eq_some_iff.1 hx').1
      exact ⟨_, List.getElem?_eq_getElem hlt, hr i _ _ (List.getElem?_eq_getElem hlt) hx'⟩
    rw [← hl] at hc hul
    have hg : V c (.imm l') (.slice A l'.length cp) := by
      refine .imm (sz := sz) (us := us) hc hm (fun el hel => ?_) hul hA (fun e => ⟨?_, (h0 e).2⟩) h1 (fun i j el x u hi hj hu => ?_)
      · obtain ⟨i, hi⟩ := List.mem_iff_getElem?.1 hel
        obtain ⟨x, hx, ht⟩ := hrow i el hi
        rw [ht.spec.1]; exact hsz x (List.mem_of_getElem? hx)
      · have := (h0 e).1; subst this; exact List.eq_nil_of_length_eq_zero hl
      · obtain ⟨x0, hx0, ht⟩ := hrow i el hi
        obtain ⟨t1, t2⟩ := ht.spec
        have hjl : j < x0.length := by rw [← t1]; exact (List.getElem?_eq_some_iff.1 hj).1
        exact t2 j _ x (List.getElem?_eq_getElem hjl) hj c u (hv i j x0 _ u hx0 (List.getElem?_eq_getElem hjl) hu)
    rw [hl] at hg; exact hg
/-! The set by which a walk goes (under the name of a set that nobody else uses here). -/
attribute [push_cast] IntKind.bits xfin xlr xstep dfin drun dstep kindOf lateL bitOf slotD List.getD_cons_zero List.getD_cons_succ List.contains_cons List.contains_nil Bool.or_false
attribute [push_cast] Bool.or_true Bool.true_or Bool.false_or gon gval aop withσ callD Cm.eval evalL evalParts evalI dvOf plain putD thenA blockA retQ resAll resL resD T abin aun
attribute [push_cast] anil nilD nilOf peq extractD loadD memD getO storeD splice cellsD leaf fieldAddrD fieldD partD indexAddrD indexD boxD buildD fillD structPlaces allTyped
attribute [push_cast] buildSliceD chunk flatZero cutD makeD convD markD sliceD unbytes unbyte lenD appendD appendP clearD cutM TI.isAgg unbytes_bytesD List.size_toArray
attribute [push_cast] List.length_cons List.length_nil List.replicate List.cons_append List.nil_append List.append_nil List.getElem?_cons_zero List.getElem?_cons_succ
attribute [push_cast] List.getElem?_nil List.getElem_toArray List.getElem_cons_zero List.getElem_cons_succ List.set_cons_zero List.set_cons_succ List.take_succ_cons List.take_zero
attribute [push_cast] List.take_nil List.drop_succ_cons List.drop_zero List.drop_nil List.all_cons List.all_nil List.map_cons List.map_nil List.getElem?_toArray Option.bind_some
attribute [push_cast] Option.bind_none Option.map_some Option.map_none Option.isSome_some Option.getD_some Option.getD_none if_true if_false ite_true ite_false Nat.add_zero
attribute [push_cast] Nat.zero_add Nat.sub_zero Nat.lt_irrefl Nat.le_refl Int.toNat_natCast Int.toNat_zero Int.le_refl decide_true decide_false and_true true_and and_false false_and
attribute [push_cast] Bool.and_true Bool.true_and Bool.and_false Bool.false_and Bool.not_true Bool.not_false Bool.false_eq_true Bool.true_eq_false beq_self_eq_true forall_const
attribute [push_cast] not_true_eq_false not_false_eq_true and_self ne_eq Bool.not_not bne Heap.get_push_ite Heap.get_set_ite Heap.n_push Heap.n_set ne1 ne2 ne3 ne4 lt1 lt2 le1
attribute [push_cast] Nat.add_lt_add_iff_left Nat.add_le_add_iff_left List.mem_cons List.not_mem_nil eq_self or_false or_self or_true true_or false_or cast0 Int.sub_zero
attribute [push_cast] Int.add_zero Int.zero_add Nat.add_eq_left Nat.left_eq_add Nat.add_left_cancel_iff Nat.add_assoc Nat.succ_ne_zero Nat.lt_add_one
attribute [push_cast] eqAggD eqOp kvals fitL sameK eqvL eqv TI.cmp
/-- One more behind a row that was made on the way. -/
theorem Hold.app1x {σ σ0 : Heap} {d : DV} {e ty : TypeId} {els : List (List DV)} {x : List DV} {a b : Nat} {z : List Value} {ei : TI} (h : Hold σ d e els) (hnew : ∀ q ∈ tOf d, σ0.n ≤ q) (hx0 : Ext [] σ0 σ) (h1 : T ty = some ⟨.slice e, a, b, z⟩) (h2 : T e = some ei) (hp : 0 < ei.size)
    (hx : x.length = ei.size) (hb : (els.length + 1) * (ei.bytes + 1) ≤ 140737488355328) :
    ∃ d' σ', appendX T (σ.push ⟨[x], e, true⟩) ty d (.sl σ.n 0 1 1) = some (d', σ') ∧ Hold σ' d' e (els ++ [x]) ∧ (∀ q ∈ tOf d', σ0.n ≤ q) ∧ Ext [] σ0 σ' ∧ Ext (tOf d) (σ.push ⟨[x], e, true⟩) σ' := by
  obtain ⟨d', σ', happ, hh, hext, hfp⟩ := Hold.append (T := T) (ty := ty) (x := .sl σ.n 0 1 1) (xs := [x]) (h.frame (X := []) (σ' := σ.push ⟨[x], e, true⟩) ((Ext.refl _ _).push _) (by simp)) h1 h2 hp (by simp [sliceD, getO]) (by simp) (by simp [hx]) (by simpa using hb)
  refine ⟨d', σ', happ, hh, fun q hq => ?_, (hx0.push _).then hext (fun q hq hlq => absurd (hnew q hq) (by omega)), hext⟩
  rcases Nat.lt_or_ge q (σ.push ⟨[x], e, true⟩).n with h | h
  · exact hnew q (hfp q h hq)
  · have h1 := hx0.1; rw [Heap.n_push] at h; omega
/-- Some more behind a row that was made on the way. -/
theorem Hold.appM {σ σ0 : Heap} {d x : DV} {e ty : TypeId} {els xs : List (List DV)} {a b : Nat} {z : List Value} {ei : TI} (h : Hold σ d e els) (hnew : ∀ q ∈ tOf d, σ0.n ≤ q) (hx0 : Ext [] σ0 σ) (h1 : T ty = some ⟨.slice e, a, b, z⟩) (h2 : T e = some ei) (hp : 0 < ei.size)
    (hx : sliceD σ x = some xs) (hall : (xs.all fun el => el.length == ei.size) = true) (hb : (els.length + xs.length) * (ei.bytes + 1) ≤ 140737488355328) :
    ∃ d' σ', appendX T σ ty d x = some (d', σ') ∧ Hold σ' d' e (els ++ xs) ∧ (∀ q ∈ tOf d', σ0.n ≤ q) ∧ Ext [] σ0 σ' ∧ Ext (tOf d) σ σ' := by
  obtain ⟨d', σ', happ, hh, hext, hfp⟩ := h.append0 (T := T) (ty := ty) h1 h2 hp hx hall hb
  refine ⟨d', σ', happ, hh, fun q hq => ?_, hx0.then hext (fun q hq hlq => absurd (hnew q hq) (by omega)), hext⟩
  rcases Nat.lt_or_ge q σ.n with h | h
  · exact hnew q (hfp q h hq)
  · have h1 := hx0.1; omega
end Go.Proofs.Ytdkhlhfdjggbpaa.Cm
