/- What a law's arguments hold, opened: by kinds (numbers, bools, strings, structs, slices of any of these). -/
import Derived.Test.YtkjfemkmooepnaaBase
import Derived.Deep.Slices
import Derived.Lib.SmallJoins
namespace Go.Proofs.Ytkjfemkmooepnaa.Opn
open Go.RowKit Go.ChangeShapes Go.WideShapes Go.Proofs.YtkjfemkmooepnaaW.PrintWords Go.Proofs.YtkjfemkmooepnaaW.PrintLast Go.Proofs.YtkjfemkmooepnaaW.PrintMore
set_option linter.unusedVariables false

/-- A value of type e, read, is one of kind d, of which wf holds. -/
def Opens {α : Type} (P : Program) (e : TypeId) (d : Kd α) (wf : α → Prop) : Prop :=
  d.sz = P.cellsOf e ∧ ∀ (H : Type) (enc : TypeId × Value → H) (w : World) (base : Nat) (sp : Nat → Bool) (hd : Bool) (fuel : Nat) (cs : List Value) (x : DataW H × List MemPlace),
    DataW.trod enc P w base sp hd fuel e cs = some x → ∃ y, d.K w y cs ∧ wf y
theorem opens_int {P : Program} {e : TypeId} {k : IntKind} (ht : P.underlying e = some (.int k)) (hc : 1 = P.cellsOf e) : Opens P e (Kd.int k) (fun x => (Lit.int k x).wf = true) :=
  ⟨hc, fun H enc w base sp hd fuel cs x h => by
    obtain ⟨n, rfl, rfl, hw⟩ := DataW.trod_int ht h
    exact ⟨n, rfl, hw⟩⟩
theorem opens_bool {P : Program} {e : TypeId} (ht : P.underlying e = some .bool) (hc : 1 = P.cellsOf e) : Opens P e Kd.bool (fun _ => True) :=
  ⟨hc, fun H enc w base sp hd fuel cs x h => by
    obtain ⟨b, rfl, rfl⟩ := DataW.trod_bool ht h
    exact ⟨b, rfl, trivial⟩⟩
theorem opens_string {P : Program} {e : TypeId} (ht : P.underlying e = some .string) (hc : 1 = P.cellsOf e) : Opens P e Kd.string (fun s => s.size ≤ maxLen) :=
  ⟨hc, fun H enc w base sp hd fuel cs x h => by
    obtain ⟨s, rfl, rfl, hs⟩ := DataW.trod_string ht h
    exact ⟨s, rfl, hs⟩⟩

/-- The fields' cells, from the offset off on. -/
def OpensF {α : Type} (P : Program) (fs : List Field) (off : Nat) (d : Kd α) (wf : α → Prop) : Prop :=
  ∀ (H : Type) (enc : TypeId × Value → H) (w : World) (base : Nat) (sp : Nat → Bool) (hd : Bool) (fuel : Nat) (cs : List Value), cs.length = d.sz →
    (∀ (i : Nat) (f : Field), fs[i]? = some f → off ≤ f.offset ∧ ∃ x, DataW.trod enc P w base sp hd fuel f.type ((cs.drop (f.offset - off)).take (P.cellsOf f.type)) = some x) → ∃ y, d.K w y cs ∧ wf y
theorem opensF_one {α : Type} {P : Program} {f : Field} {off : Nat} {d : Kd α} {wf : α → Prop} (ho : f.offset = off) (h : Opens P f.type d wf) : OpensF P [f] off d wf := by
  intro H enc w base sp hd fuel cs hl hx
  obtain ⟨_, x, hx⟩ := hx 0 f rfl
  rw [ho, Nat.sub_self, List.drop_zero, List.take_of_length_le (by rw [hl, h.1]; exact Nat.le_refl _)] at hx
  exact h.2 H enc w base sp hd fuel cs x hx
theorem opensF_cons {α β : Type} {P : Program} {f : Field} {fs : List Field} {off off' : Nat} {d : Kd α} {d' : Kd β} {wf : α → Prop} {wf' : β → Prop} (ho : f.offset = off) (h : Opens P f.type d wf) (hoff : off' = off + d.sz) (h' : OpensF P fs off' d' wf')
    (hle : ∀ g ∈ fs, off' ≤ g.offset) : OpensF P (f :: fs) off (Kd.pair d d') (fun p => wf p.1 ∧ wf' p.2) := by
  intro H enc w base sp hd fuel cs hl hx
  have hl' : cs.length = d.sz + d'.sz := hl
  obtain ⟨_, x, hx0⟩ := hx 0 f rfl
  rw [ho, Nat.sub_self, List.drop_zero] at hx0
  obtain ⟨y, hK, hw⟩ := h.2 H enc w base sp hd fuel _ x hx0
  obtain ⟨y', hK', hw'⟩ := h' H enc w base sp hd fuel (cs.drop d.sz) (by rw [List.length_drop]; omega) (fun i g hg => by
    obtain ⟨h1, x, h2⟩ := hx (i + 1) g (by simpa using hg)
    have hgm := hle g (List.mem_of_getElem? hg)
    refine ⟨hgm, x, ?_⟩
    rw [List.drop_drop, show d.sz + (g.offset - off') = g.offset - off by omega]
    exact h2)
  refine ⟨(y, y'), ⟨cs.take d.sz, cs.drop d.sz, (List.take_append_drop _ _).symm, ?_, hK'⟩, hw, hw'⟩
  rw [h.1]
  exact hK
theorem opens_struct {α β : Type} {P : Program} {e : TypeId} {fs : Array Field} {d : Kd α} {wf : α → Prop} (ht : P.underlying e = some (.struct fs)) (hc : d.sz = P.cellsOf e) (h : OpensF P fs.toList 0 d wf) (f : β → α) (g : α → β) (hfg : ∀ p, f (g p) = p) :
    Opens P e (Kd.iso d f) (fun x => wf (f x)) :=
  ⟨hc, fun H enc w base sp hd fuel cs x hx => by
    obtain ⟨xs, n, rfl, rfl, hl, hxl, hf⟩ := DataW.trod_struct ht hx
    obtain ⟨y, hK, hw⟩ := h H enc w base sp hd n cs (by rw [hl, hc]) (fun i q hq => by
      rw [Array.getElem?_toList] at hq
      have hi : i < xs.length := by rw [hxl]; exact (Array.getElem?_eq_some_iff.1 hq).1
      refine ⟨Nat.zero_le _, xs[i], ?_⟩
      rw [Nat.sub_zero, hf i q hq, List.getElem?_eq_getElem hi])
    exact ⟨g y, by show d.K w (f (g y)) cs; rw [hfg]; exact hK, by show wf (f (g y)); rw [hfg]; exact hw⟩⟩

theorem choose_pre {α : Type} {n : Nat} {p : Nat → α → Prop} (h : ∀ i, i < n → ∃ x, p i x) : ∃ l : List α, l.length = n ∧ ∀ i x, l[i]? = some x → p i x := by
  classical
  induction n with
  | zero => exact ⟨[], rfl, fun i x hx => by simp at hx⟩
  | succ n ih =>
    obtain ⟨l, hl, hp⟩ := ih (fun i hi => h i (by omega))
    obtain ⟨x, hx⟩ := h n (by omega)
    refine ⟨l ++ [x], by simp [hl], fun i y hy => ?_⟩
    by_cases hi : i < l.length
    · rw [List.getElem?_append_left hi] at hy
      exact hp i y hy
    · have hi2 : i = n := by
        have := (List.getElem?_eq_some_iff.1 hy).1
        simp at this
        omega
      subst hi2
      rw [List.getElem?_append_right (by omega), hl, Nat.sub_self] at hy
      simp at hy
      subst hy
      exact hx
/-- A slice's elements, read. -/
theorem open_row {α H : Type} {enc : TypeId × Value → H} {P : Program} {w : World} {base : Nat} {sp : Nat → Bool} {hd : Bool} {t e : TypeId} {d : Kd α} {wf : α → Prop} {fuel : Nat} {cs : List Value} {x : DataW H × List MemPlace} (ht : P.underlying t = some (.slice e)) (h : Opens P e d wf)
    (hx : DataW.trod enc P w base sp hd fuel t cs = some x) : ∃ (A : Option Addr) (c : Nat) (l : List α), cs = [.slice A l.length c] ∧ l.length ≤ c ∧ c ≤ maxLen ∧ d.C w A l.length l ∧ ∀ y ∈ l, wf y := by
  rcases Go.Deep.open_slice ht hx with ⟨rfl, rfl⟩ | ⟨a, len, cap, m, n, D, Pl, rfl, hb, hl, hm, hmm, rfl, hel⟩
  · exact ⟨none, 0, [], rfl, Nat.le_refl _, by simp [maxLen], Kd.C_nil d w, by simp⟩
  · have hlm : len ≤ m := by rw [hmm]; split <;> omega
    obtain ⟨l, hll, hp⟩ := choose_pre (n := len) (p := fun i (y : α) => wf y ∧ ∃ c, c.length = d.sz ∧ d.K w y c ∧ ∀ j u, c[j]? = some u → w.cell? (a.add (i * d.sz + j)) = some u) (fun i hi => by
      obtain ⟨c, h1, h2⟩ := hel i (by omega)
      obtain ⟨y, hK, hw⟩ := h.2 H enc w base sp hd n c _ h2
      obtain ⟨_, hcl, hcell⟩ := World.cells?_some h1
      refine ⟨y, hw, c, by rw [hcl, h.1], hK, fun j u hj => ?_⟩
      have hjl : j < P.cellsOf e := by rw [← hcl]; exact (List.getElem?_eq_some_iff.1 hj).1
      have := hcell j hjl
      rw [hj, add_add, ← h.1] at this
      exact this)
    subst hll
    have hm' : cap ≤ 9223372036854775807 := by unfold maxLen at hm; omega
    refine ⟨some a, cap, l, rfl, hl, hm, ⟨rfl, by omega, fun _ => ⟨a, rfl, fun j y hj => (hp j y hj).2⟩⟩, fun y hy => ?_⟩
    obtain ⟨j, hj⟩ := List.mem_iff_getElem?.1 hy
    exact (hp j y hj).1
theorem opens_slice {α : Type} {P : Program} {t e : TypeId} {d : Kd α} {wf : α → Prop} (q : Nat) (ht : P.underlying t = some (.slice e)) (hc : 1 = P.cellsOf t) (h : Opens P e d wf) : Opens P t (Kd.slice q d) (fun l => l.length ≤ maxLen ∧ ∀ y ∈ l, wf y) :=
  ⟨hc, fun H enc w base sp hd fuel cs x hx => by
    obtain ⟨A, c, l, rfl, hl, hm, hC, hw⟩ := open_row ht h hx
    exact ⟨l, ⟨A, c, rfl, hl, hC⟩, Nat.le_trans hl hm, hw⟩⟩
/-- A slice that is an argument. -/
theorem open_arg {α H : Type} {enc : TypeId × Value → H} {P : Program} {w : World} {base : Nat} {sp : Nat → Bool} {hd : Bool} {t e : TypeId} {d : Kd α} {wf : α → Prop} {A : Option Addr} {len c : Nat} {x : DataW H} {ps : List MemPlace} (ht : P.underlying t = some (.slice e)) (h : Opens P e d wf)
    (hx : DataW.Trod enc P w base sp hd t (.slice A len c) x ps) : ∃ l : List α, l.length = len ∧ len ≤ c ∧ c ≤ maxLen ∧ d.C w A l.length l ∧ ∀ y ∈ l, wf y := by
  obtain ⟨fuel, hf⟩ := hx
  obtain ⟨A', c', l, he, hl, hm, hC, hw⟩ := open_row ht h hf
  simp only [Value.cells, List.toList_toArray, List.cons.injEq, Value.slice.injEq, and_true] at he
  obtain ⟨rfl, rfl, rfl⟩ := he
  exact ⟨l, rfl, hl, hm, hC, hw⟩
/-- A struct that is an argument. -/
theorem open_agg {α H : Type} {enc : TypeId × Value → H} {P : Program} {w : World} {base : Nat} {sp : Nat → Bool} {hd : Bool} {t : TypeId} {fs : Array Field} {d : Kd α} {wf : α → Prop} {r : Reach} {b0 : Nat} {v : Value} {x : DataW H} {ps : List MemPlace} (ht : P.underlying t = some (.struct fs)) (h : Opens P t d wf)
    (hv : Value.okWide P w r b0 t v) (hx : DataW.Trod enc P w base sp hd t v x ps) : ∃ (y : α) (cs : List Value), v = .agg cs.toArray ∧ d.K w y cs ∧ wf y := by
  obtain ⟨c, rfl, hsz⟩ := okWide_struct ht hv
  obtain ⟨fuel, hf⟩ := hx
  obtain ⟨y, hK, hw⟩ := h.2 H enc w base sp hd fuel _ _ hf
  exact ⟨y, c.toList, by simp, by simpa [Value.cells] using hK, hw⟩
end Go.Proofs.Ytkjfemkmooepnaa.Opn
