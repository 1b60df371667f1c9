import Derived.Below
import Derived.Deep.Draws
import Derived.Laws.AppendOwn
import Derived.Laws.MakeOwn
import Derived.Laws.OwnMore
import Derived.Laws.Slices
import Derived.Laws.Rows
import Derived.Laws.CopyRow
import Derived.Laws.Cells
import Derived.WalkKit
import Derived.KernelRfl
import Derived.RowKit3
import Derived.LoopN
import Derived.Lib.ConvBytes
set_option linter.unusedVariables false
set_option linter.unusedSimpArgs false
namespace Go.Proofs.Ytcjlnaplkodgpaa.Cm
open Go.RowKit

/-- Told values: plain ones; a slice of memory that nobody writes any more, by its cells; a slice of a told object; an address in a told object; .. -/
inductive DV where
  | sc (v : Value)
  | imm (l : List (List DV))
  | ip (l : List DV)
  | sl (t off len n : Nat)
  | ptr (t i j n : Nat)
  | agg (l : List DV)
  | tup (l : List DV)
  | fn (f : Fn) (first cap : List DV)
  | ifc (ty : TypeId) (v : DV)
  | any

def plain : Value → Bool
  | .bool _ | .int _ _ | .string _ | .pointer none | .slice none 0 0 | .nilFunc | .nilIface | .map none => true
  | _ => false

structure Loc where
  blk : Nat
  cap : Nat
  sz : Nat

/-- A row of elements, each some cells. -/
structure AObj where
  els : List (List DV)
  e : TypeId
  own : Bool

structure Heap where
  l : List AObj
def Heap.n (σ : Heap) : Nat := σ.l.length
def Heap.get (σ : Heap) (t : Nat) : Option AObj := σ.l[t]?
def Heap.push (σ : Heap) (o : AObj) : Heap := ⟨σ.l ++ [o]⟩
def Heap.set (σ : Heap) (t : Nat) (o : AObj) : Heap := ⟨σ.l.set t o⟩

section
variable {σ : Heap} {t p : Nat} {o o' : AObj}
theorem Heap.lt (h : σ.get t = some o) : t < σ.n := (List.getElem?_eq_some_iff.1 h).1
@[simp] theorem Heap.n_push : (σ.push o).n = σ.n + 1 := by simp [Heap.n, Heap.push]
@[simp] theorem Heap.n_set : (σ.set t o).n = σ.n := by simp [Heap.n, Heap.set]
@[simp] theorem Heap.get_push : (σ.push o).get σ.n = some o := by simp [Heap.get, Heap.push, Heap.n]
theorem Heap.get_push_lt (h : p < σ.n) : (σ.push o).get p = σ.get p := by
  unfold Heap.get Heap.push; exact List.getElem?_append_left h
theorem Heap.get_set (h : t < σ.n) : (σ.set t o).get t = some o := by
  unfold Heap.get Heap.set; exact List.getElem?_set_self h
theorem Heap.get_set_ne (h : t ≠ p) : (σ.set t o).get p = σ.get p := by
  unfold Heap.get Heap.set; exact List.getElem?_set_ne h
theorem Heap.get_push_cases (h : (σ.push o).get p = some o') : (p = σ.n ∧ o' = o) ∨ σ.get p = some o' := by
  by_cases hp : p < σ.n
  · rw [Heap.get_push_lt hp] at h; exact .inr h
  · have := Heap.lt h
    simp at this
    obtain rfl : p = σ.n := by omega
    rw [Heap.get_push] at h
    cases h; exact .inl ⟨rfl, rfl⟩
end

/-- A told heap and the world in which it lies. -/
structure Cf where
  σ : Heap
  μ : Nat → Loc
  Z : Nat → Prop
  w : World

def Cf.len (c : Cf) (t : Nat) : Nat := ((c.σ.get t).map (·.els.length)).getD 0
def Cf.G (c : Cf) (t m : Nat) : Option Loc := match c.σ.get t with | some o => if o.els.length = m then some (c.μ t) else none | none => none

inductive V (c : Cf) : DV → Value → Prop
  | sc {v} (h : plain v = true) : V c (.sc v) v
  | imm {l : List (List DV)} {sz : Nat} {A : Option Addr} {cp : Nat} {us : List Value} (hc : l.length ≤ cp) (hm : cp ≤ maxLen) (hsz : ∀ el ∈ l, el.length = sz) (hl : us.length = l.length * sz)
      (hA : us ≠ [] → ∃ a, A = some a ∧ a.spot = none ∧ c.Z a.block ∧ ∀ j u, us[j]? = some u → c.w.cell? (a.add j) = some u) (h0 : A = none → l = [] ∧ cp = 0) (h1 : ∀ u ∈ us, u.oneCell' = true)
      (hv : ∀ (i j : Nat) (el : List DV) (x : DV) (u : Value), l[i]? = some el → el[j]? = some x → us[i * sz + j]? = some u → V c x u) : V c (.imm l) (.slice A l.length cp)
  | ip {l : List DV} {a : Addr} {us : List Value} (hl : us.length = l.length) (hz : c.Z a.block) (hs : ∀ j u, us[j]? = some u → c.w.cell? (a.add j) = some u) (ha : a.spot = none) (h1 : ∀ u ∈ us, u.oneCell' = true)
      (hv : ∀ (j : Nat) (x : DV) (u : Value), l[j]? = some x → us[j]? = some u → V c x u) : V c (.ip l) (.pointer (some a))
  | sl {t off len m a cp} (ht : t < c.σ.n) (hm : m ≤ c.len t) (hc : len ≤ cp) (h : ∀ loc, c.G t m = some loc → (a = ⟨loc.blk, off * loc.sz, none⟩ ∧ off + cp = loc.cap) ∨ (len = 0 ∧ cp = 0 ∧ off ≠ 0)) : V c (.sl t off len m) (.slice (some a) len cp)
  | ptr {t i j m a} (ht : t < c.σ.n) (hm : m ≤ c.len t) (h : ∀ loc, c.G t m = some loc → a = ⟨loc.blk, i * loc.sz + j, none⟩) : V c (.ptr t i j m) (.pointer (some a))
  | agg {l : List DV} {us : List Value} (hl : us.length = l.length) (hv : ∀ (j : Nat) (x : DV) (u : Value), l[j]? = some x → us[j]? = some u → V c x u) : V c (.agg l) (.agg us.toArray)
  | tup {l : List DV} {us : List Value} (hl : us.length = l.length) (hv : ∀ (j : Nat) (x : DV) (u : Value), l[j]? = some x → us[j]? = some u → V c x u) : V c (.tup l) (.tuple us.toArray)
  | fn {f : Fn} {l1 : List DV} {us1 : List Value} {l2 : List DV} {us2 : List Value} (hl1 : us1.length = l1.length) (hl2 : us2.length = l2.length) (hv1 : ∀ (j : Nat) (x : DV) (u : Value), l1[j]? = some x → us1[j]? = some u → V c x u) (hv2 : ∀ (j : Nat) (x : DV) (u : Value), l2[j]? = some x → us2[j]? = some u → V c x u) : V c (.fn f l1 l2) (.func f us1.toArray us2.toArray)
  | ifc {ty x u} (h : V c x u) : V c (.ifc ty x) (.iface ty u)
  | any {v} : V c .any v

structure Ev (c c' : Cf) : Prop where
  n : c.σ.n ≤ c'.σ.n
  len : ∀ t, t < c.σ.n → c.len t ≤ c'.len t
  g : ∀ t m loc, t < c.σ.n → m ≤ c.len t → c'.G t m = some loc → c.G t m = some loc
  z : ∀ b, c.Z b → c'.Z b
  zk : ∀ b, c.Z b → c'.w.heap[b]? = c.w.heap[b]?
  size : c.w.heap.size ≤ c'.w.heap.size
  os : c'.w.os = c.w.os
  tape : c'.w.tape = c.w.tape
  output : c'.w.output = c.w.output

theorem Ev.refl (c : Cf) : Ev c c := ⟨Nat.le_refl _, fun _ _ => Nat.le_refl _, fun _ _ _ _ _ h => h, fun _ h => h, fun _ _ => rfl, Nat.le_refl _, rfl, rfl, rfl⟩
theorem Ev.trans {a b c : Cf} (h : Ev a b) (k : Ev b c) : Ev a c where
  n := Nat.le_trans h.n k.n
  len := fun t ht => Nat.le_trans (h.len t ht) (k.len t (Nat.lt_of_lt_of_le ht h.n))
  g := fun t m loc ht hm hg => h.g t m loc ht hm (k.g t m loc (Nat.lt_of_lt_of_le ht h.n) (Nat.le_trans hm (h.len t ht)) hg)
  z := fun b hb => k.z b (h.z b hb)
  zk := fun b hb => (k.zk b (h.z b hb)).trans (h.zk b hb)
  size := Nat.le_trans h.size k.size
  os := k.os.trans h.os
  tape := k.tape.trans h.tape
  output := k.output.trans h.output

theorem Addr.add_block' (a : Addr) (j : Nat) : (a.add j).block = a.block := by unfold Addr.add; split <;> rfl
theorem V.ev {c c' : Cf} (he : Ev c c') {x : DV} {v : Value} (h : V c x v) : V c' x v := by
  induction h with
  | sc h => exact .sc h
  | imm hc hm hsz hl hA h0 h1 hv ih =>
    refine .imm hc hm hsz hl (fun hn => ?_) h0 h1 ih
    obtain ⟨a, e, hsp, hz, hs⟩ := hA hn
    refine ⟨a, e, hsp, he.z _ hz, fun j u hu => ?_⟩
    rw [← hs j u hu]
    refine World.cell?_of_block ?_
    rw [Addr.add_block']; exact he.zk _ hz
  | ip hl hz hs ha h1 hv ih =>
    refine .ip hl (he.z _ hz) (fun j u hu => ?_) ha h1 ih
    rw [← hs j u hu]
    refine World.cell?_of_block ?_
    rw [Addr.add_block']; exact he.zk _ hz
  | sl ht hm hc h => exact .sl (Nat.lt_of_lt_of_le ht he.n) (Nat.le_trans hm (he.len _ ht)) hc (fun loc hg => h loc (he.g _ _ _ ht hm hg))
  | ptr ht hm h => exact .ptr (Nat.lt_of_lt_of_le ht he.n) (Nat.le_trans hm (he.len _ ht)) (fun loc hg => h loc (he.g _ _ _ ht hm hg))
  | agg hl hv ih => exact .agg hl ih
  | tup hl hv ih => exact .tup hl ih
  | fn hl1 hl2 hv1 hv2 ih1 ih2 => exact .fn hl1 hl2 ih1 ih2
  | ifc h ih => exact .ifc ih
  | any => exact .any

def ObjOk (P : Program) (c : Cf) (t : Nat) (o : AObj) : Prop :=
  ∃ cur fr, c.w.heap[(c.μ t).blk]? = some (.cells cur o.e fr) ∧ (o.own = true → fr = (0, 0) ∧ ¬ c.Z (c.μ t).blk) ∧ (o.own = false → c.Z (c.μ t).blk) ∧
    cur.size = (c.μ t).cap * (c.μ t).sz ∧ (c.μ t).cap ≤ maxLen ∧ 0 < (c.μ t).sz ∧ (P.info? o.e).map (·.size) = some (c.μ t).sz ∧ o.els.length ≤ (c.μ t).cap ∧ (∀ u ∈ cur.toList, u.oneCell' = true) ∧ (∀ el ∈ o.els, el.length = (c.μ t).sz) ∧
    ∀ (i j : Nat) (el : List DV) (x : DV), o.els[i]? = some el → el[j]? = some x → ∃ u, cur[i * (c.μ t).sz + j]? = some u ∧ V c x u

structure Ok (P : Program) (c : Cf) : Prop where
  obj : ∀ t o, c.σ.get t = some o → ObjOk P c t o
  inj : ∀ t1 t2 o1 o2, c.σ.get t1 = some o1 → c.σ.get t2 = some o2 → o1.own = true → t1 ≠ t2 → (c.μ t1).blk ≠ (c.μ t2).blk
  zlt : ∀ b, c.Z b → b < c.w.heap.size

theorem Cf.G_of {c : Cf} {t : Nat} {o : AObj} (h : c.σ.get t = some o) : c.G t o.els.length = some (c.μ t) := by simp [Cf.G, h]
theorem Cf.len_of {c : Cf} {t : Nat} {o : AObj} (h : c.σ.get t = some o) : c.len t = o.els.length := by simp [Cf.len, h]

/-- An object of its own is changed, grows or moves: t has o' at loc' behind it; at most its old block and new blocks are written. -/
theorem upd {P : Program} {c : Cf} (hok : Ok P c) {t : Nat} {o o' : AObj} (ho : c.σ.get t = some o) (hown : o.own = true) (hown' : o'.own = true)
    (he : o'.e = o.e) {loc' : Loc} {w' : World} (hg : c.w.grownBy w' (some (c.μ t).blk)) (hblk : loc'.blk = (c.μ t).blk ∨ c.w.heap.size ≤ loc'.blk)
    (hsz : loc'.sz = (c.μ t).sz) (hlen : o.els.length < o'.els.length ∨ (o.els.length = o'.els.length ∧ loc' = c.μ t))
    {cur : Array Value} (hcur : w'.heap[loc'.blk]? = some (.cells cur o.e (0, 0))) (hcs : cur.size = loc'.cap * loc'.sz) (hcm : loc'.cap ≤ maxLen) (hle : o'.els.length ≤ loc'.cap) (h1 : ∀ u ∈ cur.toList, u.oneCell' = true) (hes : ∀ el ∈ o'.els, el.length = loc'.sz)
    (hv : ∀ (i j : Nat) (el : List DV) (x : DV), o'.els[i]? = some el → el[j]? = some x → ∃ u, cur[i * loc'.sz + j]? = some u ∧ V c x u) :
    Ok P { c with σ := c.σ.set t o', μ := fun s => if s = t then loc' else c.μ s, w := w' } ∧ Ev c { c with σ := c.σ.set t o', μ := fun s => if s = t then loc' else c.μ s, w := w' } := by
  have ht := Heap.lt ho
  obtain ⟨cur0, fr0, hc0, hz0, _, hs0, hm0, hp0, hi0, _, _, _, _⟩ := hok.obj t o ho
  have hZ : ¬ c.Z (c.μ t).blk := (hz0 hown).2
  have hev : Ev c { c with σ := c.σ.set t o', μ := fun s => if s = t then loc' else c.μ s, w := w' } := by
    refine ⟨by simp, fun s hs => ?_, fun s m loc hs hm hgl => ?_, fun b hb => hb, fun b hb => ?_, hg.size, hg.os, hg.tape, hg.output⟩
    · by_cases hst : s = t
      · subst hst
        simp only [Cf.len, ho, Heap.get_set ht]
        simp; omega
      · simp only [Cf.len]
        rw [Heap.get_set_ne (Ne.symm hst)]; exact Nat.le_refl _
    · by_cases hst : s = t
      · subst hst
        simp only [Cf.G, Heap.get_set ht, if_true] at hgl
        split at hgl
        · rename_i hl
          rcases hlen with h | ⟨h, e⟩
          · simp only [Cf.len, ho] at hm; simp at hm; omega
          · simp only [Cf.G, ho]; rw [if_pos (by omega), ← e]; exact hgl
        · cases hgl
      · simp only [Cf.G] at hgl ⊢
        rw [Heap.get_set_ne (Ne.symm hst)] at hgl
        simpa [hst] using hgl
    · exact hg.block b (hok.zlt b hb) (fun e => hZ (by cases e; exact hb))
  refine ⟨⟨fun s os hs => ?_, fun t1 t2 o1 o2 h1' h2 hw hne => ?_, fun b hb => Nat.lt_of_lt_of_le (hok.zlt b hb) hg.size⟩, hev⟩
  · by_cases hst : s = t
    · subst hst
      simp only [Heap.get_set ht, Option.some.injEq] at hs
      subst hs
      refine ⟨cur, (0, 0), by simpa [he] using hcur, fun _ => ⟨rfl, ?_⟩, fun h => by rw [hown'] at h; (cases h), by simpa using hcs, by simpa using hcm, by simp [hsz]; omega, by simpa [he, hsz] using hi0, by simpa using hle, h1, by simpa using hes, fun i j el x hi hx => ?_⟩
      · simp only [if_true]
        rcases hblk with h | h
        · rw [h]; exact hZ
        · intro hz; have := hok.zlt _ hz; omega
      · obtain ⟨u, hu, hvu⟩ := hv i j el x hi hx
        exact ⟨u, by simpa using hu, hvu.ev hev⟩
    · simp only [Heap.get_set_ne (Ne.symm hst)] at hs
      obtain ⟨cur1, fr1, hc1, hz1, hz1', hs1, hm1, hp1, hi1, hl1, ho1, hes1, hv1⟩ := hok.obj s os hs
      have hblk1 : (c.μ t).blk ≠ (c.μ s).blk := hok.inj t s o os ho hs hown (Ne.symm hst)
      refine ⟨cur1, fr1, ?_, ?_, ?_, ?_, ?_, ?_, ?_, ?_, ho1, ?_, fun i j el x hi hx => ?_⟩
      · simp only [hst, if_false]
        rw [hg.block _ (Array.getElem?_eq_some_iff.1 hc1).1 (fun e => hblk1 (Option.some.inj e).symm)]; exact hc1
      · simpa [hst] using hz1
      · simpa [hst] using hz1'
      · simpa [hst] using hs1
      · simpa [hst] using hm1
      · simpa [hst] using hp1
      · simpa [hst] using hi1
      · simpa [hst] using hl1
      · simpa [hst] using hes1
      · obtain ⟨u, hu, hvu⟩ := hv1 i j el x hi hx
        exact ⟨u, by simpa [hst] using hu, hvu.ev hev⟩
  · -- blocks stay apart
    have hold : ∀ s os, s ≠ t → c.σ.get s = some os → (c.μ s).blk < c.w.heap.size := fun s os _ h => by
      obtain ⟨cur1, fr1, hc1, _⟩ := hok.obj s os h
      exact (Array.getElem?_eq_some_iff.1 hc1).1
    by_cases h1t : t1 = t
    · subst h1t
      have h2t : t2 ≠ t1 := Ne.symm hne
      simp only [Heap.get_set_ne hne] at h2
      simp only [if_true, h2t, if_false]
      rcases hblk with h | h
      · rw [h]; exact hok.inj t1 t2 o o2 ho h2 hown hne
      · have := hold t2 o2 h2t h2; omega
    · by_cases h2t : t2 = t
      · subst h2t
        simp only [Heap.get_set_ne (Ne.symm h1t)] at h1'
        simp only [if_true, h1t, if_false]
        rcases hblk with h | h
        · rw [h]; exact hok.inj t1 t2 o1 o h1' ho hw hne
        · have := hold t1 o1 h1t h1'; omega
      · simp only [Heap.get_set_ne (Ne.symm h1t)] at h1'
        simp only [Heap.get_set_ne (Ne.symm h2t)] at h2
        simp only [h1t, h2t, if_false]
        exact hok.inj t1 t2 o1 o2 h1' h2 hw hne

/-- A new object of its own in a new block. -/
theorem make {P : Program} {c : Cf} (hok : Ok P c) {o : AObj} (hown : o.own = true) {loc : Loc} {w' : World} (hg : c.w.grownBy w' none) (hblk : c.w.heap.size ≤ loc.blk)
    {cur : Array Value} (hcur : w'.heap[loc.blk]? = some (.cells cur o.e (0, 0))) (hcs : cur.size = loc.cap * loc.sz) (hcm : loc.cap ≤ maxLen) (hsz : 0 < loc.sz) (hi : (P.info? o.e).map (·.size) = some loc.sz)
    (hle : o.els.length ≤ loc.cap) (h1 : ∀ u ∈ cur.toList, u.oneCell' = true) (hes : ∀ el ∈ o.els, el.length = loc.sz)
    (hv : ∀ (i j : Nat) (el : List DV) (x : DV), o.els[i]? = some el → el[j]? = some x → ∃ u, cur[i * loc.sz + j]? = some u ∧ V c x u) :
    Ok P { c with σ := c.σ.push o, μ := fun s => if s = c.σ.n then loc else c.μ s, w := w' } ∧ Ev c { c with σ := c.σ.push o, μ := fun s => if s = c.σ.n then loc else c.μ s, w := w' } := by
  have hev : Ev c { c with σ := c.σ.push o, μ := fun s => if s = c.σ.n then loc else c.μ s, w := w' } := by
    refine ⟨by simp, fun s hs => ?_, fun s m lc hs hm hgl => ?_, fun b hb => hb, fun b hb => ?_, hg.size, hg.os, hg.tape, hg.output⟩
    · simp only [Cf.len, Heap.get_push_lt hs]; exact Nat.le_refl _
    · simp only [Cf.G, Heap.get_push_lt hs, if_neg (Nat.ne_of_lt hs)] at hgl ⊢
      exact hgl
    · exact hg.block b (hok.zlt b hb) (by simp)
  refine ⟨⟨fun s os hs => ?_, fun t1 t2 o1 o2 h1' h2 hw hne => ?_, fun b hb => Nat.lt_of_lt_of_le (hok.zlt b hb) hg.size⟩, hev⟩
  · rcases Heap.get_push_cases hs with ⟨rfl, rfl⟩ | hs
    · refine ⟨cur, (0, 0), by simpa using hcur, fun _ => ⟨rfl, ?_⟩, fun h => by rw [hown] at h; (cases h), by simpa using hcs, by simpa using hcm, by simpa using hsz, by simpa using hi, by simpa using hle, h1, by simpa using hes, fun i j el x hi hx => ?_⟩
      · simp only [if_true]; intro hz; have := hok.zlt _ hz; omega
      · obtain ⟨u, hu, hvu⟩ := hv i j el x hi hx
        exact ⟨u, by simpa using hu, hvu.ev hev⟩
    · have hlt := Heap.lt hs
      obtain ⟨cur1, fr1, hc1, hz1, hz1', hs1, hm1, hp1, hi1, hl1, ho1, hes1, hv1⟩ := hok.obj s os hs
      refine ⟨cur1, fr1, ?_, ?_, ?_, ?_, ?_, ?_, ?_, ?_, ho1, ?_, fun i j el x hi hx => ?_⟩ <;> try simp only [if_neg (Nat.ne_of_lt hlt)]
      · rw [hg.block _ (Array.getElem?_eq_some_iff.1 hc1).1 (by simp)]; exact hc1
      · exact hz1
      · exact hz1'
      · exact hs1
      · exact hm1
      · exact hp1
      · exact hi1
      · exact hl1
      · exact hes1
      · obtain ⟨u, hu, hvu⟩ := hv1 i j el x hi hx
        exact ⟨u, hu, hvu.ev hev⟩
  · have hold : ∀ s os, c.σ.get s = some os → (c.μ s).blk < c.w.heap.size := fun s os h => by
      obtain ⟨cur1, fr1, hc1, _⟩ := hok.obj s os h
      exact (Array.getElem?_eq_some_iff.1 hc1).1
    rcases Heap.get_push_cases h1' with ⟨e1, _⟩ | k1
    · rcases Heap.get_push_cases h2 with ⟨e2, _⟩ | k2
      · exact absurd (e1.trans e2.symm) hne
      · have h2n : t2 ≠ c.σ.n := Nat.ne_of_lt (Heap.lt k2)
        simp only [if_pos e1, if_neg h2n]; have := hold t2 o2 k2; omega
    · have hl1 := Heap.lt k1
      rcases Heap.get_push_cases h2 with ⟨e2, _⟩ | k2
      · simp only [if_pos e2, if_neg (Nat.ne_of_lt hl1)]; have := hold t1 o1 k1; omega
      · have hl2 := Heap.lt k2
        simp only [if_neg (Nat.ne_of_lt hl1), if_neg (Nat.ne_of_lt hl2)]
        exact hok.inj t1 t2 o1 o2 k1 k2 hw hne

/-- An object that is written no more. -/
theorem freeze {P : Program} {c : Cf} (hok : Ok P c) {t : Nat} {o : AObj} (ho : c.σ.get t = some o) :
    Ok P { c with σ := c.σ.set t { o with own := false }, Z := fun b => c.Z b ∨ b = (c.μ t).blk } ∧ Ev c { c with σ := c.σ.set t { o with own := false }, Z := fun b => c.Z b ∨ b = (c.μ t).blk } := by
  have ht := Heap.lt ho
  have hev : Ev c { c with σ := c.σ.set t { o with own := false }, Z := fun b => c.Z b ∨ b = (c.μ t).blk } := by
    refine ⟨by simp, fun s hs => ?_, fun s m lc hs hm hgl => ?_, fun b hb => .inl hb, fun b hb => rfl, Nat.le_refl _, rfl, rfl, rfl⟩
    · by_cases hst : s = t
      · subst hst; simp [Cf.len, ho, Heap.get_set ht]
      · simp only [Cf.len]; rw [Heap.get_set_ne (Ne.symm hst)]; exact Nat.le_refl _
    · by_cases hst : s = t
      · subst hst; simp only [Cf.G, Heap.get_set ht] at hgl; simp only [Cf.G, ho]; exact hgl
      · simp only [Cf.G] at hgl ⊢; rw [Heap.get_set_ne (Ne.symm hst)] at hgl; exact hgl
  have hlt : ∀ s os, c.σ.get s = some os → (c.μ s).blk < c.w.heap.size := fun s os h => by
    obtain ⟨cur1, fr1, hc1, _⟩ := hok.obj s os h
    exact (Array.getElem?_eq_some_iff.1 hc1).1
  refine ⟨⟨fun s os hs => ?_, fun t1 t2 o1 o2 h1' h2 hw hne => ?_, fun b hb => ?_⟩, hev⟩
  · by_cases hst : s = t
    · subst hst
      simp only [Heap.get_set ht, Option.some.injEq] at hs
      subst hs
      obtain ⟨cur1, fr1, hc1, hz1, hz1', hs1, hm1, hp1, hi1, hl1, ho1, hes1, hv1⟩ := hok.obj s o ho
      exact ⟨cur1, fr1, hc1, fun h => by simp at h, fun _ => .inr rfl, hs1, hm1, hp1, hi1, hl1, ho1, hes1, fun i j el x hi hx => by obtain ⟨u, hu, hvu⟩ := hv1 i j el x hi hx; exact ⟨u, hu, hvu.ev hev⟩⟩
    · simp only [Heap.get_set_ne (Ne.symm hst)] at hs
      obtain ⟨cur1, fr1, hc1, hz1, hz1', hs1, hm1, hp1, hi1, hl1, ho1, hes1, hv1⟩ := hok.obj s os hs
      refine ⟨cur1, fr1, hc1, fun h => ⟨(hz1 h).1, ?_⟩, fun h => .inl (hz1' h), hs1, hm1, hp1, hi1, hl1, ho1, hes1, fun i j el x hi hx => by obtain ⟨u, hu, hvu⟩ := hv1 i j el x hi hx; exact ⟨u, hu, hvu.ev hev⟩⟩
      rintro (h2 | h2)
      · exact (hz1 h).2 h2
      · exact hok.inj s t os o hs ho h hst h2
  · have hget : ∀ s os, (c.σ.set t { o with own := false }).get s = some os → ∃ os', c.σ.get s = some os' ∧ (os.own = true → os'.own = true ∧ s ≠ t) := fun s os h => by
      by_cases hst : s = t
      · subst hst
        simp only [Heap.get_set ht, Option.some.injEq] at h
        subst h
        exact ⟨o, ho, fun h => by simp at h⟩
      · rw [Heap.get_set_ne (Ne.symm hst)] at h; exact ⟨os, h, fun h' => ⟨h', hst⟩⟩
    obtain ⟨o1', g1, k1⟩ := hget t1 o1 h1'
    obtain ⟨o2', g2, k2⟩ := hget t2 o2 h2
    exact hok.inj t1 t2 o1' o2' g1 g2 (k1 hw).1 hne
  · rcases hb with hb | rfl
    · exact hok.zlt b hb
    · exact hlt t o ho

/-- What an object holds may be told otherwise. -/
theorem retell {P : Program} {c : Cf} (hok : Ok P c) {t : Nat} {o o' : AObj} (ho : c.σ.get t = some o) (hown : o'.own = o.own) (he : o'.e = o.e) (hlen : o'.els.length = o.els.length)
    (hel : ∀ (i : Nat) (el el' : List DV), o.els[i]? = some el → o'.els[i]? = some el' → el'.length = el.length ∧ ∀ (j : Nat) (x x' : DV) (u : Value), el[j]? = some x → el'[j]? = some x' → V c x u → V c x' u) :
    Ok P { c with σ := c.σ.set t o' } ∧ Ev c { c with σ := c.σ.set t o' } := by
  have ht := Heap.lt ho
  have hev : Ev c { c with σ := c.σ.set t o' } := by
    refine ⟨by simp, fun s hs => ?_, fun s m lc hs hm hgl => ?_, fun b hb => hb, fun b hb => rfl, Nat.le_refl _, rfl, rfl, rfl⟩
    · by_cases hst : s = t
      · subst hst; simp [Cf.len, ho, Heap.get_set ht, hlen]
      · simp only [Cf.len]; rw [Heap.get_set_ne (Ne.symm hst)]; exact Nat.le_refl _
    · by_cases hst : s = t
      · subst hst; simp only [Cf.G, Heap.get_set ht] at hgl; simp only [Cf.G, ho]; rw [hlen] at hgl; exact hgl
      · simp only [Cf.G] at hgl ⊢; rw [Heap.get_set_ne (Ne.symm hst)] at hgl; exact hgl
  have hget : ∀ s os, (c.σ.set t o').get s = some os → ∃ os', c.σ.get s = some os' ∧ os.own = os'.own := fun s os h => by
    by_cases hst : s = t
    · subst hst
      simp only [Heap.get_set ht, Option.some.injEq] at h
      subst h
      exact ⟨o, ho, hown⟩
    · rw [Heap.get_set_ne (Ne.symm hst)] at h; exact ⟨os, h, rfl⟩
  refine ⟨⟨fun s os hs => ?_, fun t1 t2 o1 o2 h1' h2 hw hne => ?_, hok.zlt⟩, hev⟩
  · by_cases hst : s = t
    · subst hst
      simp only [Heap.get_set ht, Option.some.injEq] at hs
      subst hs
      obtain ⟨cur1, fr1, hc1, hz1, hz1', hs1, hm1, hp1, hi1, hl1, ho1, hes1, hv1⟩ := hok.obj s o ho
      have hold : ∀ (i : Nat) (el' : List DV), o'.els[i]? = some el' → ∃ el, o.els[i]? = some el := fun i el' h => by
        have hlt : i < o.els.length := by rw [← hlen]; exact (List.getElem?_eq_some_iff.1 h).1
        exact ⟨_, List.getElem?_eq_getElem hlt⟩
      refine ⟨cur1, fr1, by rw [he]; exact hc1, fun h => hz1 (hown ▸ h), fun h => hz1' (hown ▸ h), hs1, hm1, hp1, by rw [he]; exact hi1, by rw [hlen]; exact hl1, ho1, fun el' hel' => ?_, fun i j el' x' hi hx => ?_⟩
      · obtain ⟨i, hi⟩ := List.mem_iff_getElem?.1 hel'
        obtain ⟨el, hi0⟩ := hold i el' hi
        rw [(hel i el el' hi0 hi).1]; exact hes1 el (List.mem_of_getElem? hi0)
      · obtain ⟨el, hi0⟩ := hold i el' hi
        obtain ⟨h1, h2⟩ := hel i el el' hi0 hi
        have hlt : j < el.length := by rw [← h1]; exact (List.getElem?_eq_some_iff.1 hx).1
        obtain ⟨u, hu, hvu⟩ := hv1 i j el _ hi0 (List.getElem?_eq_getElem hlt)
        exact ⟨u, hu, (h2 j _ x' u (List.getElem?_eq_getElem hlt) hx hvu).ev hev⟩
    · simp only [Heap.get_set_ne (Ne.symm hst)] at hs
      obtain ⟨cur1, fr1, hc1, hz1, hz1', hs1, hm1, hp1, hi1, hl1, ho1, hes1, hv1⟩ := hok.obj s os hs
      exact ⟨cur1, fr1, hc1, hz1, hz1', hs1, hm1, hp1, hi1, hl1, ho1, hes1, fun i j el x hi hx => by obtain ⟨u, hu, hvu⟩ := hv1 i j el x hi hx; exact ⟨u, hu, hvu.ev hev⟩⟩
  · obtain ⟨o1', g1, k1⟩ := hget t1 o1 h1'
    obtain ⟨o2', g2, k2⟩ := hget t2 o2 h2
    exact hok.inj t1 t2 o1' o2' g1 g2 (k1 ▸ hw) hne

end Go.Proofs.Ytcjlnaplkodgpaa.Cm
