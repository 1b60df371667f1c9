import Derived.Test.YtdkhlhfdjggbpaaCmDraw
import Derived.Deep.Slices
import Derived.Lib.SmallJoins
set_option linter.unusedVariables false
set_option linter.unusedSimpArgs false
namespace Go.Proofs.Ytdkhlhfdjggbpaa.Cm
open Go.RowKit Go.ChangeShapes Go.WideShapes

/-- A value of type e, read, is told by enc, and wf holds of it. -/
def OpensC {α : Type} (P : Program) (e : TypeId) (enc : α → List DV) (wf : α → Prop) : Prop :=
  (∀ y, (enc y).length = P.cellsOf e) ∧ ∀ (H : Type) (encH : TypeId × Value → H) (base : Nat) (sp : Nat → Bool) (hd : Bool) (fuel : Nat) (cs : List Value) (x : DataW H × List MemPlace) (c : Cf), (∀ b, b < c.w.heap.size → c.Z b) →
    DataW.trod encH P c.w base sp hd fuel e cs = some x → ∃ y, FR c (enc y) cs ∧ wf y
theorem FR.one_plain {c : Cf} {v : Value} (h : Cm.plain v = true) : FR c [.sc v] [v] := by
  have := FR.plain (c := c) (us := [v]) (by simp [h])
  simpa using this
theorem opensC_int {P : Program} {e : TypeId} {k : IntKind} (ht : P.underlying e = some (.int k)) (hc : 1 = P.cellsOf e) : OpensC P e (fun n : Int => [.sc (.int k n)]) (fun x => (Lit.int k x).wf = true) :=
  ⟨fun _ => hc, fun H enc base sp hd fuel cs x c _ h => by
    obtain ⟨n, rfl, rfl, hw⟩ := DataW.trod_int ht h
    exact ⟨n, FR.one_plain rfl, hw⟩⟩
def OpensFC {α : Type} (P : Program) (fs : List Field) (off n : Nat) (enc : α → List DV) (wf : α → Prop) : Prop :=
  (∀ y, (enc y).length = n) ∧ ∀ (H : Type) (encH : TypeId × Value → H) (base : Nat) (sp : Nat → Bool) (hd : Bool) (fuel : Nat) (cs : List Value) (c : Cf), (∀ b, b < c.w.heap.size → c.Z b) → cs.length = n →
    (∀ (i : Nat) (f : Field), fs[i]? = some f → off ≤ f.offset ∧ ∃ x, DataW.trod encH P c.w base sp hd fuel f.type ((cs.drop (f.offset - off)).take (P.cellsOf f.type)) = some x) → ∃ y, FR c (enc y) cs ∧ wf y
theorem opensFC_one {α : Type} {P : Program} {f : Field} {off n : Nat} {enc : α → List DV} {wf : α → Prop} (ho : f.offset = off) (hn : n = P.cellsOf f.type) (h : OpensC P f.type enc wf) : OpensFC P [f] off n enc wf := by
  refine ⟨fun y => by rw [h.1, hn], fun H encH base sp hd fuel cs c hz hl hx => ?_⟩
  obtain ⟨_, x, hx⟩ := hx 0 f rfl
  rw [ho, Nat.sub_self, List.drop_zero, List.take_of_length_le (by rw [hl, hn]; exact Nat.le_refl _)] at hx
  exact h.2 H encH base sp hd fuel cs x c hz hx
theorem opensFC_cons {α β : Type} {P : Program} {f : Field} {fs : List Field} {off off' n n' : Nat} {enc : α → List DV} {enc' : β → List DV} {wf : α → Prop} {wf' : β → Prop} (ho : f.offset = off) (hn : n = P.cellsOf f.type) (h : OpensC P f.type enc wf) (hoff : off' = off + n) (h' : OpensFC P fs off' n' enc' wf')
    (hle : ∀ g ∈ fs, off' ≤ g.offset) : OpensFC P (f :: fs) off (n + n') (fun p : α × β => enc p.1 ++ enc' p.2) (fun p => wf p.1 ∧ wf' p.2) := by
  refine ⟨fun p => by rw [List.length_append, h.1, h'.1, hn], fun H encH base sp hd fuel cs c hz hl hx => ?_⟩
  obtain ⟨_, x, hx0⟩ := hx 0 f rfl
  rw [ho, Nat.sub_self, List.drop_zero] at hx0
  obtain ⟨y, hK, hw⟩ := h.2 H encH base sp hd fuel _ x c hz hx0
  obtain ⟨y', hK', hw'⟩ := h'.2 H encH base sp hd fuel (cs.drop n) c hz (by rw [List.length_drop]; omega) (fun i g hg => by
    obtain ⟨h1, x, h2⟩ := hx (i + 1) g (by simpa using hg)
    have hgm := hle g (List.mem_of_getElem? hg)
    refine ⟨hgm, x, ?_⟩
    rw [List.drop_drop, show n + (g.offset - off') = g.offset - off by omega]
    exact h2)
  refine ⟨(y, y'), ?_, hw, hw'⟩
  have := hK.append hK'
  rwa [← hn, List.take_append_drop] at this
theorem opensC_struct {α β : Type} {P : Program} {e : TypeId} {fs : Array Field} {n : Nat} {enc : α → List DV} {wf : α → Prop} (ht : P.underlying e = some (.struct fs)) (hc : n = P.cellsOf e) (h : OpensFC P fs.toList 0 n enc wf) (encB : β → List DV) (wfB : β → Prop) (g : α → β) (hg : ∀ p, encB (g p) = enc p) (hw : ∀ p, wf p → wfB (g p)) (hn : ∀ y, (encB y).length = n) :
    OpensC P e encB wfB :=
  ⟨fun y => by rw [hn, hc], fun H encH base sp hd fuel cs x c hz hx => by
    obtain ⟨xs, m, rfl, rfl, hl, hxl, hf⟩ := DataW.trod_struct ht hx
    obtain ⟨y, hK, hwy⟩ := h.2 H encH base sp hd m cs c hz (by rw [hl, hc]) (fun i q hq => by
      rw [Array.getElem?_toList] at hq
      have hi : i < xs.length := by rw [hxl]; exact (Array.getElem?_eq_some_iff.1 hq).1
      refine ⟨Nat.zero_le _, xs[i], ?_⟩
      rw [Nat.sub_zero, hf i q hq, List.getElem?_eq_getElem hi])
    exact ⟨g y, by rw [hg]; exact hK, hw y hwy⟩⟩

theorem choose_preC {α : Type} {n : Nat} {p : Nat → α → Prop} (h : ∀ i, i < n → ∃ x, p i x) : ∃ l : List α, l.length = n ∧ ∀ (i : Nat) (x : α), l[i]? = some x → p i x := by
  classical
  induction n with
  | zero => exact ⟨[], rfl, fun i x hx => by simp at hx⟩
  | succ n ih =>
    obtain ⟨l, hl, hp⟩ := ih (fun i hi => h i (by omega))
    obtain ⟨x, hx⟩ := h n (by omega)
    refine ⟨l ++ [x], by simp [hl], fun i y hy => ?_⟩
    by_cases hi : i < l.length
    · rw [List.getElem?_append_left hi] at hy
      exact hp i y hy
    · have hi2 : i = n := by
        have := (List.getElem?_eq_some_iff.1 hy).1
        simp at this
        omega
      subst hi2
      rw [List.getElem?_append_right (by omega), hl, Nat.sub_self] at hy
      simp at hy
      subst hy
      exact hx

theorem add_addC (a : Addr) (i j : Nat) : (a.add i).add j = a.add (i + j) := by
  unfold Addr.add
  by_cases hi : i = 0
  · subst hi; simp
  · by_cases hj : j = 0
    · subst hj; simp
    · simp [hi, hj, Nat.add_assoc]

/-- A slice, read. -/
theorem open_rowC {α H : Type} {encH : TypeId × Value → H} {P : Program} {base : Nat} {sp : Nat → Bool} {hd : Bool} {t e : TypeId} {enc : α → List DV} {wf : α → Prop} {fuel : Nat} {cs : List Value} {x : DataW H × List MemPlace} {c : Cf} (hz : ∀ b, b < c.w.heap.size → c.Z b) (ht : P.underlying t = some (.slice e)) (hp0 : 0 < P.cellsOf e) (h : OpensC P e enc wf)
    (hx : DataW.trod encH P c.w base sp hd fuel t cs = some x) : ∃ (v : Value) (l : List α), cs = [v] ∧ V c (.imm (l.map enc)) v ∧ l.length ≤ maxLen ∧ (∃ A cp, v = .slice A l.length cp) ∧ ∀ y ∈ l, wf y := by
  rcases Go.Deep.open_slice ht hx with ⟨rfl, rfl⟩ | ⟨a, len, cap, m, n, D, Pl, rfl, hb, hl, hm, hmm, rfl, hel⟩
  · exact ⟨_, [], rfl, V.imm (l := []) (sz := 0) (us := []) (Nat.le_refl _) (by simp [maxLen]) (by simp) (by simp) (by simp) (fun _ => ⟨rfl, rfl⟩) (by simp) (by simp), by simp [maxLen], ⟨_, _, rfl⟩, by simp⟩
  · have hlm : len ≤ m := by rw [hmm]; split <;> omega
    have hm' : cap ≤ maxLen := hm
    obtain ⟨l, hll, hp⟩ := choose_preC (n := len) (p := fun i (y : α) => wf y ∧ ∃ us : List Value, FR c (enc y) us ∧ ∀ j u, us[j]? = some u → c.w.cell? (a.add (i * P.cellsOf e + j)) = some u) (fun i hi => by
      obtain ⟨us, h1, h2⟩ := hel i (by omega)
      obtain ⟨y, hK, hw⟩ := h.2 H encH base sp hd n us _ c hz h2
      obtain ⟨_, hcl, hcell⟩ := World.cells?_some h1
      refine ⟨y, hw, us, hK, fun j u hj => ?_⟩
      have hjl : j < P.cellsOf e := by rw [← hcl]; exact (List.getElem?_eq_some_iff.1 hj).1
      have := hcell j hjl
      rw [hj, add_addC] at this
      exact this)
    subst hll
    obtain ⟨uss, hul, hus⟩ := choose_preC (n := l.length) (p := fun i (us : List Value) => ∃ y, l[i]? = some y ∧ FR c (enc y) us ∧ ∀ j u, us[j]? = some u → c.w.cell? (a.add (i * P.cellsOf e + j)) = some u) (fun i hi => by
      obtain ⟨_, us, h1, h2⟩ := hp i l[i] (List.getElem?_eq_getElem hi)
      exact ⟨us, l[i], List.getElem?_eq_getElem hi, h1, h2⟩)
    have husz : ∀ us ∈ uss, us.length = P.cellsOf e := fun us hm => by
      obtain ⟨i, hi⟩ := List.mem_iff_getElem?.1 hm
      obtain ⟨y, _, h1, _⟩ := hus i us hi
      rw [h1.len, h.1]
    have hget : ∀ {sz : Nat} {L : List (List Value)} (hL : ∀ el ∈ L, el.length = sz) (k : Nat) (u : Value), L.flatten[k]? = some u → ∃ i j el, k = i * sz + j ∧ L[i]? = some el ∧ el[j]? = some u ∧ j < sz := by
      intro sz L hL
      induction L with
      | nil => intro k u h; simp at h
      | cons e0 r ih =>
        intro k u hk
        have he0 := hL e0 List.mem_cons_self
        rw [List.flatten_cons] at hk
        by_cases hke : k < e0.length
        · rw [List.getElem?_append_left hke] at hk
          exact ⟨0, k, e0, by omega, rfl, hk, by omega⟩
        · rw [List.getElem?_append_right (by omega)] at hk
          obtain ⟨i, j, el, h1, h2, h3, h4⟩ := ih (fun el hel => hL el (List.mem_cons_of_mem _ hel)) _ u hk
          exact ⟨i + 1, j, el, by rw [Nat.add_mul]; omega, by simpa using h2, h3, h4⟩
    have hcells : ∀ k u, uss.flatten[k]? = some u → c.w.cell? (a.add k) = some u := fun k u hk => by
      obtain ⟨i, j, el, rfl, h2, h3, _⟩ := hget husz k u hk
      obtain ⟨y, _, _, h5⟩ := hus i el h2
      exact h5 j u h3
    have hflen : ∀ {sz : Nat} {L : List (List Value)} (hL : ∀ el ∈ L, el.length = sz), L.flatten.length = L.length * sz := by
      intro sz L hL
      induction L with
      | nil => simp
      | cons e0 r ih => rw [List.flatten_cons, List.length_append, ih (fun el hel => hL el (List.mem_cons_of_mem _ hel)), hL e0 List.mem_cons_self, List.length_cons, Nat.add_mul]; omega
    have key : V c (.imm (l.map enc)) (.slice (some a) (l.map enc).length cap) := by
      refine .imm (sz := P.cellsOf e) (us := uss.flatten) (by simpa using hl) hm' (fun el hel => ?_) (by rw [hflen husz, hul]; simp) (fun hne => ⟨a, rfl, ?_, ?_, hcells⟩) (fun e => by cases e) (fun u hu => ?_) (fun i j el x u hi hj hu => ?_)
      · simp only [List.mem_map] at hel
        obtain ⟨y, _, rfl⟩ := hel
        exact h.1 y
      · obtain ⟨u, hu⟩ := List.exists_mem_of_ne_nil _ hne
        have h0 : 0 < uss.flatten.length := List.length_pos_of_mem hu
        have hc0 := hcells 0 _ (List.getElem?_eq_getElem h0)
        rw [Addr.add_zero'] at hc0
        unfold World.cell? at hc0
        split at hc0
        · split at hc0
          · cases hc0
          · rename_i hsp; simpa using hsp
        · cases hc0
      · obtain ⟨u, hu⟩ := List.exists_mem_of_ne_nil _ hne
        have h0 : 0 < uss.flatten.length := List.length_pos_of_mem hu
        have hc0 := hcells 0 _ (List.getElem?_eq_getElem h0)
        rw [Addr.add_zero'] at hc0
        exact hz _ (World.block_lt_of_cell? c.w a hc0)
      · obtain ⟨k, hk⟩ := List.mem_iff_getElem?.1 hu
        obtain ⟨i, j, el, _, h2, h3, _⟩ := hget husz k u hk
        obtain ⟨y, _, h5, _⟩ := hus i el h2
        exact h5.one u (List.mem_of_getElem? h3)
      · rw [List.getElem?_map] at hi
        obtain ⟨y, hy, rfl⟩ := Option.map_eq_some_iff.1 hi
        obtain ⟨i2, j2, el2, h1, h2, h3, h4⟩ := hget husz _ u hu
        have hjl : j < P.cellsOf e := by rw [← h.1 y]; exact (List.getElem?_eq_some_iff.1 hj).1
        have hii : i2 = i ∧ j2 = j := by
          have e1 : (i2 * P.cellsOf e + j2) / P.cellsOf e = i2 := by rw [Nat.mul_comm, Nat.mul_add_div hp0, Nat.div_eq_of_lt h4, Nat.add_zero]
          have e2 : (i * P.cellsOf e + j) / P.cellsOf e = i := by rw [Nat.mul_comm, Nat.mul_add_div hp0, Nat.div_eq_of_lt hjl, Nat.add_zero]
          have : i2 = i := by rw [← e1, ← h1, e2]
          subst this; exact ⟨rfl, by omega⟩
        obtain ⟨rfl, rfl⟩ := hii
        obtain ⟨y2, hy2, h5, _⟩ := hus i2 el2 h2
        rw [hy] at hy2; cases hy2
        exact h5.v j2 x u hj h3
    rw [List.length_map] at key
    exact ⟨_, l, rfl, key, by omega, ⟨_, _, rfl⟩, fun y hy => by
      obtain ⟨j, hj⟩ := List.mem_iff_getElem?.1 hy
      exact (hp j y hj).1⟩

theorem opensC_slice {α : Type} {P : Program} {t e : TypeId} {enc : α → List DV} {wf : α → Prop} (ht : P.underlying t = some (.slice e)) (hc : 1 = P.cellsOf t) (hp0 : 0 < P.cellsOf e) (h : OpensC P e enc wf) : OpensC P t (fun l : List α => [.imm (l.map enc)]) (fun l => l.length ≤ maxLen ∧ ∀ y ∈ l, wf y) :=
  ⟨fun _ => hc, fun H encH base sp hd fuel cs x c hz hx => by
    obtain ⟨v, l, rfl, hv, hl, _, hw⟩ := open_rowC hz ht hp0 h hx
    refine ⟨l, ⟨rfl, fun u hu => ?_, fun j y u hy hu => ?_⟩, hl, hw⟩
    · simp at hu; subst hu; exact hv.leaf rfl
    · cases j with
      | zero => simp at hy hu; subst hy; subst hu; exact hv
      | succ j => simp at hy⟩
theorem open_argC {α H : Type} {encH : TypeId × Value → H} {P : Program} {base : Nat} {sp : Nat → Bool} {hd : Bool} {t e : TypeId} {enc : α → List DV} {wf : α → Prop} {A : Option Addr} {len cp : Nat} {x : DataW H} {ps : List MemPlace} {c : Cf} (hz : ∀ b, b < c.w.heap.size → c.Z b) (ht : P.underlying t = some (.slice e)) (hp0 : 0 < P.cellsOf e) (h : OpensC P e enc wf)
    (hx : DataW.Trod encH P c.w base sp hd t (.slice A len cp) x ps) : ∃ l : List α, l.length = len ∧ l.length ≤ maxLen ∧ V c (.imm (l.map enc)) (.slice A len cp) ∧ ∀ y ∈ l, wf y := by
  obtain ⟨fuel, hf⟩ := hx
  obtain ⟨v, l, he, hv, hl, ⟨A', cp', hve⟩, hw⟩ := open_rowC hz ht hp0 h hf
  simp only [Value.cells, List.cons.injEq, and_true] at he
  subst he
  injection hve with h1 h2 h3
  exact ⟨l, h2.symm, hl, hv, hw⟩
/-- What a law's call needs. -/
def start (w : World) : Cf := ⟨⟨[]⟩, fun _ => ⟨0, 0, 0⟩, fun b => b < w.heap.size, w⟩
theorem start_ok (P : Program) (w : World) : Ok P (start w) := ⟨fun t o h => by simp [start, Heap.get] at h, fun t1 t2 o1 o2 h => by simp [start, Heap.get] at h, fun b h => h⟩
theorem law_calls {P : Program} {f : FuncId} {args : List DV} {vs : List Value} {w : World} (h : ACalls P f args ⟨[]⟩ (fun x _ => x = .sc (.bool true))) (hv : VL (start w) args vs) :
    Calls P f vs.toArray w (fun e w' => e = .returned (.bool true) ∧ Below w.heap.size w w') := by
  refine (h (start w) (start_ok P w) rfl vs hv).mono (fun e w' hh => ?_)
  obtain ⟨v, x, c', rfl, rfl, h3, h4, h5, rfl⟩ := hh
  obtain ⟨rfl, _⟩ := h5.plain_inv
  exact ⟨rfl, h4.os, h4.tape, h4.output, h4.size, fun k hk => h4.zk k hk⟩
end Go.Proofs.Ytdkhlhfdjggbpaa.Cm
