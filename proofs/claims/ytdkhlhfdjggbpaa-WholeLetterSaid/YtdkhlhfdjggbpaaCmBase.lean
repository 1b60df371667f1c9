import Derived.Below
import Derived.Deep.Draws
import Derived.Laws.AppendOwn
import Derived.Laws.MakeOwn
import Derived.Laws.OwnMore
import Derived.Laws.Slices
import Derived.Laws.Rows
import Derived.Laws.CopyRow
import Derived.Laws.Cells
import Derived.WalkKit
import Derived.KernelRfl
import Derived.RowKit3
import Derived.LoopN
import Derived.Lib.ConvBytes
import Derived.Maps.Keyed
import Derived.Maps.RangeRun
set_option linter.unusedVariables false
set_option linter.unusedSimpArgs false
namespace Go.Proofs.Ytdkhlhfdjggbpaa.Cm
open Go.RowKit

/-- Told values: plain ones; a slice of memory that nobody writes any more, by its cells; a slice of a told object; an address in a told object; .. -/
inductive DV where
  | sc (v : Value)
  | imm (l : List (List DV))
  | ip (l : List DV)
  | sl (t off len n : Nat)
  | ptr (t i j n : Nat)
  | agg (l : List DV)
  | tup (l : List DV)
  | fn (f : Fn) (first cap : List DV)
  | ifc (ty : TypeId) (v : DV)
  | mp (t : Nat)
  | it (t : Nat)
  | full (l : List (List DV))
  | any

def plain : Value → Bool
  | .bool _ | .int _ _ | .string _ | .pointer none | .slice none 0 0 | .nilFunc | .nilIface | .map none => true
  | _ => false

structure Loc where
  blk : Nat
  cap : Nat
  sz : Nat

/-- A row of elements, each some cells. -/
structure AObj where
  els : List (List DV)
  e : TypeId
  own : Option Bool
/-- How far a row has grown. -/
def AObj.ln (o : AObj) : Nat := match o.own with | some _ => o.els.length | none => 0
theorem AObj.ln_row {o : AObj} (h : o.own.isSome = true) : o.ln = o.els.length := by unfold AObj.ln; cases hh : o.own <;> simp_all
@[simp] theorem AObj.ln_mk {l : List (List DV)} {e : TypeId} {b : Bool} : AObj.ln ⟨l, e, some b⟩ = l.length := rfl
theorem AObj.ln_none {o : AObj} (h : o.own = none) : o.ln = 0 := by unfold AObj.ln; rw [h]

structure Heap where
  l : List AObj
def Heap.n (σ : Heap) : Nat := σ.l.length
def Heap.get (σ : Heap) (t : Nat) : Option AObj := σ.l[t]?
def Heap.push (σ : Heap) (o : AObj) : Heap := ⟨σ.l ++ [o]⟩
def Heap.set (σ : Heap) (t : Nat) (o : AObj) : Heap := ⟨σ.l.set t o⟩

section
variable {σ : Heap} {t p : Nat} {o o' : AObj}
theorem Heap.lt (h : σ.get t = some o) : t < σ.n := (List.getElem?_eq_some_iff.1 h).1
@[simp] theorem Heap.n_push : (σ.push o).n = σ.n + 1 := by simp [Heap.n, Heap.push]
@[simp] theorem Heap.n_set : (σ.set t o).n = σ.n := by simp [Heap.n, Heap.set]
@[simp] theorem Heap.get_push : (σ.push o).get σ.n = some o := by simp [Heap.get, Heap.push, Heap.n]
theorem Heap.get_push_lt (h : p < σ.n) : (σ.push o).get p = σ.get p := by
  unfold Heap.get Heap.push; exact List.getElem?_append_left h
theorem Heap.get_set (h : t < σ.n) : (σ.set t o).get t = some o := by
  unfold Heap.get Heap.set; exact List.getElem?_set_self h
theorem Heap.get_set_ne (h : t ≠ p) : (σ.set t o).get p = σ.get p := by
  unfold Heap.get Heap.set; exact List.getElem?_set_ne h
theorem Heap.get_push_cases (h : (σ.push o).get p = some o') : (p = σ.n ∧ o' = o) ∨ σ.get p = some o' := by
  by_cases hp : p < σ.n
  · rw [Heap.get_push_lt hp] at h; exact .inr h
  · have := Heap.lt h
    simp at this
    obtain rfl : p = σ.n := by omega
    rw [Heap.get_push] at h
    cases h; exact .inl ⟨rfl, rfl⟩
end

/-- A told heap and the world in which it lies. -/
structure Cf where
  σ : Heap
  μ : Nat → Loc
  Z : Nat → Prop
  w : World

def Cf.len (c : Cf) (t : Nat) : Nat := ((c.σ.get t).map AObj.ln).getD 0
def Cf.G (c : Cf) (t m : Nat) : Option Loc := match c.σ.get t with | some o => if o.ln = m then some (c.μ t) else none | none => none

inductive V (c : Cf) : DV → Value → Prop
  | sc {v} (h : plain v = true) : V c (.sc v) v
  | imm {l : List (List DV)} {sz : Nat} {A : Option Addr} {cp : Nat} {us : List Value} (hc : l.length ≤ cp) (hm : cp ≤ maxLen) (hsz : ∀ el ∈ l, el.length = sz) (hl : us.length = l.length * sz)
      (hA : us ≠ [] → ∃ a, A = some a ∧ a.spot = none ∧ c.Z a.block ∧ ∀ j u, us[j]? = some u → c.w.cell? (a.add j) = some u) (h0 : A = none → l = [] ∧ cp = 0) (h1 : ∀ u ∈ us, u.oneCell' = true)
      (hv : ∀ (i j : Nat) (el : List DV) (x : DV) (u : Value), l[i]? = some el → el[j]? = some x → us[i * sz + j]? = some u → V c x u) : V c (.imm l) (.slice A l.length cp)
  | ip {l : List DV} {a : Addr} {us : List Value} (hl : us.length = l.length) (hz : c.Z a.block) (hs : ∀ j u, us[j]? = some u → c.w.cell? (a.add j) = some u) (ha : a.spot = none) (h1 : ∀ u ∈ us, u.oneCell' = true)
      (hv : ∀ (j : Nat) (x : DV) (u : Value), l[j]? = some x → us[j]? = some u → V c x u) : V c (.ip l) (.pointer (some a))
  | sl {t off len m a cp} (ht : t < c.σ.n) (hm : m ≤ c.len t) (hc : len ≤ cp) (h : ∀ loc, c.G t m = some loc → (a = ⟨loc.blk, off * loc.sz, none⟩ ∧ off + cp = loc.cap) ∨ (len = 0 ∧ cp = 0 ∧ off ≠ 0)) : V c (.sl t off len m) (.slice (some a) len cp)
  | ptr {t i j m a} (ht : t < c.σ.n) (hm : m ≤ c.len t) (h : ∀ loc, c.G t m = some loc → a = ⟨loc.blk, i * loc.sz + j, none⟩) : V c (.ptr t i j m) (.pointer (some a))
  | agg {l : List DV} {us : List Value} (hl : us.length = l.length) (hv : ∀ (j : Nat) (x : DV) (u : Value), l[j]? = some x → us[j]? = some u → V c x u) : V c (.agg l) (.agg us.toArray)
  | tup {l : List DV} {us : List Value} (hl : us.length = l.length) (hv : ∀ (j : Nat) (x : DV) (u : Value), l[j]? = some x → us[j]? = some u → V c x u) : V c (.tup l) (.tuple us.toArray)
  | fn {f : Fn} {l1 : List DV} {us1 : List Value} {l2 : List DV} {us2 : List Value} (hl1 : us1.length = l1.length) (hl2 : us2.length = l2.length) (hv1 : ∀ (j : Nat) (x : DV) (u : Value), l1[j]? = some x → us1[j]? = some u → V c x u) (hv2 : ∀ (j : Nat) (x : DV) (u : Value), l2[j]? = some x → us2[j]? = some u → V c x u) : V c (.fn f l1 l2) (.func f us1.toArray us2.toArray)
  | ifc {ty x u} (h : V c x u) : V c (.ifc ty x) (.iface ty u)
  | mp {t b} (ht : t < c.σ.n) (h : ∀ loc, c.G t 0 = some loc → b = loc.blk) : V c (.mp t) (.map (some b))
  | it {t b} (ht : t < c.σ.n) (h : ∀ loc, c.G t 0 = some loc → b = loc.blk) : V c (.it t) (.pointer (some ⟨b, 0, none⟩))
  | full {l : List (List DV)} {A : Option Addr} (h : V c (.imm l) (.slice A l.length l.length)) : V c (.full l) (.slice A l.length l.length)
  | any {v} : V c .any v

structure Ev (c c' : Cf) : Prop where
  n : c.σ.n ≤ c'.σ.n
  len : ∀ t, t < c.σ.n → c.len t ≤ c'.len t
  g : ∀ t m loc, t < c.σ.n → m ≤ c.len t → c'.G t m = some loc → c.G t m = some loc
  z : ∀ b, c.Z b → c'.Z b
  zk : ∀ b, c.Z b → c'.w.heap[b]? = c.w.heap[b]?
  size : c.w.heap.size ≤ c'.w.heap.size
  os : c'.w.os = c.w.os
  tape : c'.w.tape = c.w.tape
  output : c'.w.output = c.w.output

theorem Ev.refl (c : Cf) : Ev c c := ⟨Nat.le_refl _, fun _ _ => Nat.le_refl _, fun _ _ _ _ _ h => h, fun _ h => h, fun _ _ => rfl, Nat.le_refl _, rfl, rfl, rfl⟩
theorem Ev.trans {a b c : Cf} (h : Ev a b) (k : Ev b c) : Ev a c where
  n := Nat.le_trans h.n k.n
  len := fun t ht => Nat.le_trans (h.len t ht) (k.len t (Nat.lt_of_lt_of_le ht h.n))
  g := fun t m loc ht hm hg => h.g t m loc ht hm (k.g t m loc (Nat.lt_of_lt_of_le ht h.n) (Nat.le_trans hm (h.len t ht)) hg)
  z := fun b hb => k.z b (h.z b hb)
  zk := fun b hb => (k.zk b (h.z b hb)).trans (h.zk b hb)
  size := Nat.le_trans h.size k.size
  os := k.os.trans h.os
  tape := k.tape.trans h.tape
  output := k.output.trans h.output

theorem Addr.add_block' (a : Addr) (j : Nat) : (a.add j).block = a.block := by unfold Addr.add; split <;> rfl
theorem V.ev {c c' : Cf} (he : Ev c c') {x : DV} {v : Value} (h : V c x v) : V c' x v := by
  induction h with
  | sc h => exact .sc h
  | imm hc hm hsz hl hA h0 h1 hv ih =>
    refine .imm hc hm hsz hl (fun hn => ?_) h0 h1 ih
    obtain ⟨a, e, hsp, hz, hs⟩ := hA hn
    refine ⟨a, e, hsp, he.z _ hz, fun j u hu => ?_⟩
    rw [← hs j u hu]
    refine World.cell?_of_block ?_
    rw [Addr.add_block']; exact he.zk _ hz
  | ip hl hz hs ha h1 hv ih =>
    refine .ip hl (he.z _ hz) (fun j u hu => ?_) ha h1 ih
    rw [← hs j u hu]
    refine World.cell?_of_block ?_
    rw [Addr.add_block']; exact he.zk _ hz
  | sl ht hm hc h => exact .sl (Nat.lt_of_lt_of_le ht he.n) (Nat.le_trans hm (he.len _ ht)) hc (fun loc hg => h loc (he.g _ _ _ ht hm hg))
  | ptr ht hm h => exact .ptr (Nat.lt_of_lt_of_le ht he.n) (Nat.le_trans hm (he.len _ ht)) (fun loc hg => h loc (he.g _ _ _ ht hm hg))
  | agg hl hv ih => exact .agg hl ih
  | tup hl hv ih => exact .tup hl ih
  | fn hl1 hl2 hv1 hv2 ih1 ih2 => exact .fn hl1 hl2 ih1 ih2
  | ifc h ih => exact .ifc ih
  | mp ht h => exact .mp (Nat.lt_of_lt_of_le ht he.n) (fun loc hg => h loc (he.g _ _ _ ht (Nat.zero_le _) hg))
  | it ht h => exact .it (Nat.lt_of_lt_of_le ht he.n) (fun loc hg => h loc (he.g _ _ _ ht (Nat.zero_le _) hg))
  | full h ih => exact .full ih
  | any => exact .any

def RowOk (P : Program) (c : Cf) (t : Nat) (o : AObj) : Prop :=
  ∃ cur fr, c.w.heap[(c.μ t).blk]? = some (.cells cur o.e fr) ∧ (o.own = true → fr = (0, 0) ∧ ¬ c.Z (c.μ t).blk) ∧ (o.own = false → c.Z (c.μ t).blk) ∧
    cur.size = (c.μ t).cap * (c.μ t).sz ∧ (c.μ t).cap ≤ maxLen ∧ 0 < (c.μ t).sz ∧ (P.info? o.e).map (·.size) = some (c.μ t).sz ∧ o.els.length ≤ (c.μ t).cap ∧ (∀ u ∈ cur.toList, u.oneCell' = true) ∧ (∀ el ∈ o.els, el.length = (c.μ t).sz) ∧
    ∀ (i j : Nat) (el : List DV) (x : DV), o.els[i]? = some el → el[j]? = some x → ∃ u, cur[i * (c.μ t).sz + j]? = some u ∧ V c x u
/-- A map: its entries' keys, values and stamps; the object's type may tell its clock besides. -/
def MapOk (P : Program) (c : Cf) (t : Nat) (o : AObj) : Prop :=
  ∃ ty kt et es clock, (o.e = ty ∨ o.e = ty + 2000000000 * (clock + 1)) ∧ ty < 1000000000 ∧ P.underlying ty = some (.map kt et) ∧ c.w.heap[(c.μ t).blk]? = some (.map es clock) ∧ ¬ c.Z (c.μ t).blk ∧ es.size = o.els.length ∧ MapKept.Stamped es clock ∧ (∀ e ∈ es.toList, ∃ l, keyOf P kt e.key = some l) ∧
    ∀ (i : Nat) (el : List DV) (e : MapEntry), o.els[i]? = some el → es[i]? = some e → ∃ k v, el = [k, v, .sc (.int .i64 e.born)] ∧ V c k e.key ∧ V c v e.val
/-- What goes through a map that stands still: the map and its clock, then the stamps that were handed out. -/
def IterOk (c : Cf) (t : Nat) (o : AObj) : Prop :=
  o.e = 1000000000 ∧ ∃ m k seen b, c.w.heap[(c.μ t).blk]? = some (.mapIter (some b) k seen k) ∧ ¬ c.Z (c.μ t).blk ∧ V c (.mp m) (.map (some b)) ∧ o.els = [.mp m, .sc (.int .i64 (k : Nat))] :: seen.toList.map (fun s => [.sc (.int .i64 (s : Nat))])
def ObjOk (P : Program) (c : Cf) (t : Nat) (o : AObj) : Prop := match o.own with | some _ => RowOk P c t o | none => MapOk P c t o ∨ IterOk c t o

structure Ok (P : Program) (c : Cf) : Prop where
  obj : ∀ t o, c.σ.get t = some o → ObjOk P c t o
  inj : ∀ t1 t2 o1 o2, c.σ.get t1 = some o1 → c.σ.get t2 = some o2 → o1.own ≠ some false → t1 ≠ t2 → (c.μ t1).blk ≠ (c.μ t2).blk
  zlt : ∀ b, c.Z b → b < c.w.heap.size

theorem ObjOk.row {P : Program} {c : Cf} {t : Nat} {o : AObj} (h : ObjOk P c t o) (hr : o.own.isSome = true) : RowOk P c t o := by
  unfold ObjOk at h
  cases hh : o.own with
  | none => rw [hh] at hr; cases hr
  | some b => rw [hh] at h; exact h
theorem RowOk.obj {P : Program} {c : Cf} {t : Nat} {o : AObj} (h : RowOk P c t o) (hr : o.own.isSome = true) : ObjOk P c t o := by
  unfold ObjOk
  cases hh : o.own with
  | none => rw [hh] at hr; cases hr
  | some b => exact h
theorem ObjOk.nrow {P : Program} {c : Cf} {t : Nat} {o : AObj} (h : ObjOk P c t o) (hr : o.own = none) : MapOk P c t o ∨ IterOk c t o := by
  unfold ObjOk at h; rw [hr] at h; exact h
theorem nrow_obj {P : Program} {c : Cf} {t : Nat} {o : AObj} (hr : o.own = none) (h : MapOk P c t o ∨ IterOk c t o) : ObjOk P c t o := by
  unfold ObjOk; rw [hr]; exact h
theorem Ok.row {P : Program} {c : Cf} (hok : Ok P c) {t : Nat} {o : AObj} (h : c.σ.get t = some o) (hr : o.own.isSome = true) : RowOk P c t o := (hok.obj t o h).row hr
theorem isSome_of {b : Bool} {x : Option Bool} (h : x = some b) : x.isSome = true := by rw [h]; rfl
theorem ne_false_of {x : Option Bool} (h : x = some true) : x ≠ some false := by rw [h]; simp
theorem ne_false_none {x : Option Bool} (h : x = none) : x ≠ some false := by rw [h]; simp

theorem Cf.G_of {c : Cf} {t : Nat} {o : AObj} (h : c.σ.get t = some o) (hr : o.own.isSome = true) : c.G t o.els.length = some (c.μ t) := by simp [Cf.G, h, AObj.ln_row hr]
theorem ObjOk.lt {P : Program} {c : Cf} {t : Nat} {o : AObj} (h : ObjOk P c t o) : (c.μ t).blk < c.w.heap.size := by
  cases hh : o.own with
  | some b => obtain ⟨cur, fr, hc, _⟩ := h.row (isSome_of hh); exact (Array.getElem?_eq_some_iff.1 hc).1
  | none =>
    rcases h.nrow hh with ⟨_, _, _, es, cl, _, _, _, hc, _⟩ | ⟨_, m, k, sn, b, hc, _⟩ <;> exact (Array.getElem?_eq_some_iff.1 hc).1
/-- An object that is let alone. -/
theorem ObjOk.keep {P : Program} {c c' : Cf} {t : Nat} {o : AObj} (h : ObjOk P c t o) (hev : Ev c c') (hμ : c'.μ t = c.μ t) (hb : c'.w.heap[(c.μ t).blk]? = c.w.heap[(c.μ t).blk]?)
    (hz : o.own ≠ some false → ¬ c.Z (c.μ t).blk → ¬ c'.Z (c.μ t).blk) : ObjOk P c' t o := by
  cases hh : o.own with
  | some b =>
    obtain ⟨cur1, fr1, hc1, hz1, hz1', hs1, hm1, hp1, hi1, hl1, ho1, hes1, hv1⟩ := h.row (isSome_of hh)
    refine RowOk.obj ⟨cur1, fr1, ?_, ?_, ?_, ?_, ?_, ?_, ?_, ?_, ho1, ?_, ?_⟩ (isSome_of hh)
    · rw [hμ, hb]; exact hc1
    · intro hw; rw [hμ]; exact ⟨(hz1 hw).1, hz (ne_false_of hw) (hz1 hw).2⟩
    · intro hw; rw [hμ]; exact hev.z _ (hz1' hw)
    · rw [hμ]; exact hs1
    · rw [hμ]; exact hm1
    · rw [hμ]; exact hp1
    · rw [hμ]; exact hi1
    · rw [hμ]; exact hl1
    · rw [hμ]; exact hes1
    · rw [hμ]; intro i j el x hi hx; obtain ⟨u, hu, hvu⟩ := hv1 i j el x hi hx; exact ⟨u, hu, hvu.ev hev⟩
  | none =>
    refine nrow_obj hh ?_
    rcases h.nrow hh with ⟨ty, kt, et, es, cl, he, hty, hu, hc, hzz, hs, hst, hkk, hv⟩ | ⟨he, m, k, sn, b, hc, hzz, hv, hels⟩
    · refine .inl ⟨ty, kt, et, es, cl, he, hty, hu, by rw [hμ, hb]; exact hc, by rw [hμ]; exact hz (ne_false_none hh) hzz, hs, hst, hkk, fun i el e hi hj => ?_⟩
      obtain ⟨k, v, h1, h2, h3⟩ := hv i el e hi hj
      exact ⟨k, v, h1, h2.ev hev, h3.ev hev⟩
    · exact .inr ⟨he, m, k, sn, b, by rw [hμ, hb]; exact hc, by rw [hμ]; exact hz (ne_false_none hh) hzz, hv.ev hev, hels⟩

/-- An object of its own is changed in place, or moves: t has o' behind it; at most its old block and new blocks are written. -/
theorem updG {P : Program} {c : Cf} (hok : Ok P c) {t : Nat} {o o' : AObj} (ho : c.σ.get t = some o) (hown : o.own ≠ some false) (hown' : o'.own ≠ some false) {loc' : Loc} {w' : World} (hZ : ¬ c.Z (c.μ t).blk) (hg : c.w.grownBy w' (some (c.μ t).blk)) (hblk : loc'.blk = (c.μ t).blk ∨ c.w.heap.size ≤ loc'.blk)
    (hlen : (o.ln < o'.ln) ∨ (o.ln = o'.ln ∧ loc' = c.μ t))
    (hnew : ∀ c', c' = { c with σ := c.σ.set t o', μ := fun s => if s = t then loc' else c.μ s, w := w' } → Ev c c' → ¬ c'.Z loc'.blk → ObjOk P c' t o') :
    Ok P { c with σ := c.σ.set t o', μ := fun s => if s = t then loc' else c.μ s, w := w' } ∧ Ev c { c with σ := c.σ.set t o', μ := fun s => if s = t then loc' else c.μ s, w := w' } := by
  have ht := Heap.lt ho
  have hev : Ev c { c with σ := c.σ.set t o', μ := fun s => if s = t then loc' else c.μ s, w := w' } := by
    refine ⟨by simp, fun s hs => ?_, fun s m loc hs hm hgl => ?_, fun b hb => hb, fun b hb => ?_, hg.size, hg.os, hg.tape, hg.output⟩
    · by_cases hst : s = t
      · subst hst
        simp only [Cf.len, ho, Heap.get_set ht]
        simp; omega
      · simp only [Cf.len]
        rw [Heap.get_set_ne (Ne.symm hst)]; exact Nat.le_refl _
    · by_cases hst : s = t
      · subst hst
        simp only [Cf.G, Heap.get_set ht, if_true] at hgl
        split at hgl
        · rename_i hl
          rcases hlen with h | ⟨h, e⟩
          · simp only [Cf.len, ho] at hm; simp at hm; omega
          · simp only [Cf.G, ho]; rw [if_pos (by omega), ← e]; exact hgl
        · cases hgl
      · simp only [Cf.G] at hgl ⊢
        rw [Heap.get_set_ne (Ne.symm hst)] at hgl
        simpa [hst] using hgl
    · exact hg.block b (hok.zlt b hb) (fun e => hZ (by cases e; exact hb))
  have hZ' : ¬ c.Z loc'.blk := by
    rcases hblk with h | h
    · rw [h]; exact hZ
    · intro hz; have := hok.zlt _ hz; omega
  refine ⟨⟨fun s os hs => ?_, fun t1 t2 o1 o2 h1' h2 hw hne => ?_, fun b hb => Nat.lt_of_lt_of_le (hok.zlt b hb) hg.size⟩, hev⟩
  · by_cases hst : s = t
    · subst hst
      simp only [Heap.get_set ht, Option.some.injEq] at hs
      subst hs
      exact hnew _ rfl hev hZ'
    · simp only [Heap.get_set_ne (Ne.symm hst)] at hs
      have hblk1 : (c.μ t).blk ≠ (c.μ s).blk := hok.inj t s o os ho hs hown (Ne.symm hst)
      refine (hok.obj s os hs).keep hev (by simp [hst]) ?_ (fun _ h => h)
      exact hg.block _ (hok.obj s os hs).lt (fun e => hblk1 (Option.some.inj e).symm)
  · -- blocks stay apart
    have hold : ∀ s os, c.σ.get s = some os → (c.μ s).blk < c.w.heap.size := fun s os h => (hok.obj s os h).lt
    by_cases h1t : t1 = t
    · subst h1t
      have h2t : t2 ≠ t1 := Ne.symm hne
      simp only [Heap.get_set_ne hne] at h2
      simp only [if_true, h2t, if_false]
      rcases hblk with h | h
      · rw [h]; exact hok.inj t1 t2 o o2 ho h2 hown hne
      · have := hold t2 o2 h2; omega
    · by_cases h2t : t2 = t
      · subst h2t
        simp only [Heap.get_set_ne (Ne.symm h1t)] at h1'
        simp only [if_true, h1t, if_false]
        rcases hblk with h | h
        · rw [h]; exact hok.inj t1 t2 o1 o h1' ho hw hne
        · have := hold t1 o1 h1'; omega
      · simp only [Heap.get_set_ne (Ne.symm h1t)] at h1'
        simp only [Heap.get_set_ne (Ne.symm h2t)] at h2
        simp only [h1t, h2t, if_false]
        exact hok.inj t1 t2 o1 o2 h1' h2 hw hne
/-- A row of its own is changed, grows or moves. -/
theorem upd {P : Program} {c : Cf} (hok : Ok P c) {t : Nat} {o o' : AObj} (ho : c.σ.get t = some o) (hown : o.own = true) (hown' : o'.own = true)
    (he : o'.e = o.e) {loc' : Loc} {w' : World} (hg : c.w.grownBy w' (some (c.μ t).blk)) (hblk : loc'.blk = (c.μ t).blk ∨ c.w.heap.size ≤ loc'.blk)
    (hsz : loc'.sz = (c.μ t).sz) (hlen : o.els.length < o'.els.length ∨ (o.els.length = o'.els.length ∧ loc' = c.μ t))
    {cur : Array Value} (hcur : w'.heap[loc'.blk]? = some (.cells cur o.e (0, 0))) (hcs : cur.size = loc'.cap * loc'.sz) (hcm : loc'.cap ≤ maxLen) (hle : o'.els.length ≤ loc'.cap) (h1 : ∀ u ∈ cur.toList, u.oneCell' = true) (hes : ∀ el ∈ o'.els, el.length = loc'.sz)
    (hv : ∀ (i j : Nat) (el : List DV) (x : DV), o'.els[i]? = some el → el[j]? = some x → ∃ u, cur[i * loc'.sz + j]? = some u ∧ V c x u) :
    Ok P { c with σ := c.σ.set t o', μ := fun s => if s = t then loc' else c.μ s, w := w' } ∧ Ev c { c with σ := c.σ.set t o', μ := fun s => if s = t then loc' else c.μ s, w := w' } := by
  obtain ⟨cur0, fr0, hc0, hz0, _, hs0, hm0, hp0, hi0, _, _, _, _⟩ := hok.row ho (isSome_of hown)
  refine updG hok ho (ne_false_of hown) (ne_false_of hown') (hz0 hown).2 hg hblk ?_ ?_
  · rw [AObj.ln_row (isSome_of hown), AObj.ln_row (isSome_of hown')]; exact hlen
  · rintro c' rfl hev hZ
    refine RowOk.obj ⟨cur, (0, 0), by simpa [he] using hcur, fun _ => ⟨rfl, by simpa using hZ⟩, fun h => by rw [hown'] at h; simp at h, by simpa using hcs, by simpa using hcm, by simp [hsz]; omega, by simpa [he, hsz] using hi0, by simpa using hle, h1, by simpa using hes, fun i j el x hi hx => ?_⟩ (isSome_of hown')
    obtain ⟨u, hu, hvu⟩ := hv i j el x hi hx
    exact ⟨u, by simpa using hu, hvu.ev hev⟩

/-- A new object in a new block. -/
theorem makeG {P : Program} {c : Cf} (hok : Ok P c) {o : AObj} {loc : Loc} {w' : World} (hg : c.w.grownBy w' none) (hblk : c.w.heap.size ≤ loc.blk)
    (hnew : ∀ c', c' = { c with σ := c.σ.push o, μ := fun s => if s = c.σ.n then loc else c.μ s, w := w' } → Ev c c' → ¬ c'.Z loc.blk → ObjOk P c' c.σ.n o) :
    Ok P { c with σ := c.σ.push o, μ := fun s => if s = c.σ.n then loc else c.μ s, w := w' } ∧ Ev c { c with σ := c.σ.push o, μ := fun s => if s = c.σ.n then loc else c.μ s, w := w' } := by
  have hev : Ev c { c with σ := c.σ.push o, μ := fun s => if s = c.σ.n then loc else c.μ s, w := w' } := by
    refine ⟨by simp, fun s hs => ?_, fun s m lc hs hm hgl => ?_, fun b hb => hb, fun b hb => ?_, hg.size, hg.os, hg.tape, hg.output⟩
    · simp only [Cf.len, Heap.get_push_lt hs]; exact Nat.le_refl _
    · simp only [Cf.G, Heap.get_push_lt hs, if_neg (Nat.ne_of_lt hs)] at hgl ⊢
      exact hgl
    · exact hg.block b (hok.zlt b hb) (by simp)
  refine ⟨⟨fun s os hs => ?_, fun t1 t2 o1 o2 h1' h2 hw hne => ?_, fun b hb => Nat.lt_of_lt_of_le (hok.zlt b hb) hg.size⟩, hev⟩
  · rcases Heap.get_push_cases hs with ⟨rfl, rfl⟩ | hs
    · exact hnew _ rfl hev (by intro hz; have := hok.zlt _ hz; omega)
    · have hlt := Heap.lt hs
      refine (hok.obj s os hs).keep hev (by simp [Nat.ne_of_lt hlt]) ?_ (fun _ h => h)
      exact hg.block _ (hok.obj s os hs).lt (by simp)
  · have hold : ∀ s os, c.σ.get s = some os → (c.μ s).blk < c.w.heap.size := fun s os h => (hok.obj s os h).lt
    rcases Heap.get_push_cases h1' with ⟨e1, _⟩ | k1
    · rcases Heap.get_push_cases h2 with ⟨e2, _⟩ | k2
      · exact absurd (e1.trans e2.symm) hne
      · have h2n : t2 ≠ c.σ.n := Nat.ne_of_lt (Heap.lt k2)
        simp only [if_pos e1, if_neg h2n]; have := hold t2 o2 k2; omega
    · have hl1 := Heap.lt k1
      rcases Heap.get_push_cases h2 with ⟨e2, _⟩ | k2
      · simp only [if_pos e2, if_neg (Nat.ne_of_lt hl1)]; have := hold t1 o1 k1; omega
      · have hl2 := Heap.lt k2
        simp only [if_neg (Nat.ne_of_lt hl1), if_neg (Nat.ne_of_lt hl2)]
        exact hok.inj t1 t2 o1 o2 k1 k2 hw hne
/-- A new row of its own in a new block. -/
theorem make {P : Program} {c : Cf} (hok : Ok P c) {o : AObj} (hown : o.own = true) {loc : Loc} {w' : World} (hg : c.w.grownBy w' none) (hblk : c.w.heap.size ≤ loc.blk)
    {cur : Array Value} (hcur : w'.heap[loc.blk]? = some (.cells cur o.e (0, 0))) (hcs : cur.size = loc.cap * loc.sz) (hcm : loc.cap ≤ maxLen) (hsz : 0 < loc.sz) (hi : (P.info? o.e).map (·.size) = some loc.sz)
    (hle : o.els.length ≤ loc.cap) (h1 : ∀ u ∈ cur.toList, u.oneCell' = true) (hes : ∀ el ∈ o.els, el.length = loc.sz)
    (hv : ∀ (i j : Nat) (el : List DV) (x : DV), o.els[i]? = some el → el[j]? = some x → ∃ u, cur[i * loc.sz + j]? = some u ∧ V c x u) :
    Ok P { c with σ := c.σ.push o, μ := fun s => if s = c.σ.n then loc else c.μ s, w := w' } ∧ Ev c { c with σ := c.σ.push o, μ := fun s => if s = c.σ.n then loc else c.μ s, w := w' } := by
  refine makeG hok hg hblk ?_
  rintro c' rfl hev hZ
  refine RowOk.obj ⟨cur, (0, 0), by simpa using hcur, fun _ => ⟨rfl, by simpa using hZ⟩, fun h => by rw [hown] at h; simp at h, by simpa using hcs, by simpa using hcm, by simpa using hsz, by simpa using hi, by simpa using hle, h1, by simpa using hes, fun i j el x hi hx => ?_⟩ (isSome_of hown)
  obtain ⟨u, hu, hvu⟩ := hv i j el x hi hx
  exact ⟨u, by simpa using hu, hvu.ev hev⟩

/-- An object that is written no more. -/
theorem freeze {P : Program} {c : Cf} (hok : Ok P c) {t : Nat} {o : AObj} (ho : c.σ.get t = some o) (hr : o.own.isSome = true := by rfl) :
    Ok P { c with σ := c.σ.set t { o with own := false }, Z := fun b => c.Z b ∨ b = (c.μ t).blk } ∧ Ev c { c with σ := c.σ.set t { o with own := false }, Z := fun b => c.Z b ∨ b = (c.μ t).blk } := by
  have ht := Heap.lt ho
  have hln : AObj.ln { o with own := false } = o.ln := by rw [AObj.ln_row hr]; rfl
  have hev : Ev c { c with σ := c.σ.set t { o with own := false }, Z := fun b => c.Z b ∨ b = (c.μ t).blk } := by
    refine ⟨by simp, fun s hs => ?_, fun s m lc hs hm hgl => ?_, fun b hb => .inl hb, fun b hb => rfl, Nat.le_refl _, rfl, rfl, rfl⟩
    · by_cases hst : s = t
      · subst hst; simp [Cf.len, ho, Heap.get_set ht, hln]
      · simp only [Cf.len]; rw [Heap.get_set_ne (Ne.symm hst)]; exact Nat.le_refl _
    · by_cases hst : s = t
      · subst hst; simp only [Cf.G, Heap.get_set ht, hln] at hgl; simp only [Cf.G, ho]; exact hgl
      · simp only [Cf.G] at hgl ⊢; rw [Heap.get_set_ne (Ne.symm hst)] at hgl; exact hgl
  refine ⟨⟨fun s os hs => ?_, fun t1 t2 o1 o2 h1' h2 hw hne => ?_, fun b hb => ?_⟩, hev⟩
  · by_cases hst : s = t
    · subst hst
      simp only [Heap.get_set ht, Option.some.injEq] at hs
      subst hs
      obtain ⟨cur1, fr1, hc1, hz1, hz1', hs1, hm1, hp1, hi1, hl1, ho1, hes1, hv1⟩ := hok.row ho hr
      exact RowOk.obj ⟨cur1, fr1, hc1, fun h => by simp at h, fun _ => .inr rfl, hs1, hm1, hp1, hi1, hl1, ho1, hes1, fun i j el x hi hx => by obtain ⟨u, hu, hvu⟩ := hv1 i j el x hi hx; exact ⟨u, hu, hvu.ev hev⟩⟩ rfl
    · simp only [Heap.get_set_ne (Ne.symm hst)] at hs
      refine (hok.obj s os hs).keep hev rfl rfl (fun hw h => ?_)
      rintro (h2 | h2)
      · exact h h2
      · exact hok.inj s t os o hs ho hw hst h2
  · have hget : ∀ s os, (c.σ.set t { o with own := false }).get s = some os → ∃ os', c.σ.get s = some os' ∧ (os.own ≠ some false → os'.own ≠ some false ∧ s ≠ t) := fun s os h => by
      by_cases hst : s = t
      · subst hst
        simp only [Heap.get_set ht, Option.some.injEq] at h
        subst h
        exact ⟨o, ho, fun h => by simp at h⟩
      · rw [Heap.get_set_ne (Ne.symm hst)] at h; exact ⟨os, h, fun h' => ⟨h', hst⟩⟩
    obtain ⟨o1', g1, k1⟩ := hget t1 o1 h1'
    obtain ⟨o2', g2, k2⟩ := hget t2 o2 h2
    exact hok.inj t1 t2 o1' o2' g1 g2 (k1 hw).1 hne
  · rcases hb with hb | rfl
    · exact hok.zlt b hb
    · exact (hok.obj t o ho).lt

/-- What an object holds may be told otherwise. -/
theorem retell {P : Program} {c : Cf} (hok : Ok P c) {t : Nat} {o o' : AObj} (ho : c.σ.get t = some o) (hown : o'.own = o.own) (he : o'.e = o.e) (hlen : o'.els.length = o.els.length)
    (hel : ∀ (i : Nat) (el el' : List DV), o.els[i]? = some el → o'.els[i]? = some el' → el'.length = el.length ∧ ∀ (j : Nat) (x x' : DV) (u : Value), el[j]? = some x → el'[j]? = some x' → V c x u → V c x' u) (hr : o.own.isSome = true := by rfl) :
    Ok P { c with σ := c.σ.set t o' } ∧ Ev c { c with σ := c.σ.set t o' } := by
  have ht := Heap.lt ho
  have hln : o'.ln = o.ln := by rw [AObj.ln_row hr, AObj.ln_row (hown ▸ hr), hlen]
  have hev : Ev c { c with σ := c.σ.set t o' } := by
    refine ⟨by simp, fun s hs => ?_, fun s m lc hs hm hgl => ?_, fun b hb => hb, fun b hb => rfl, Nat.le_refl _, rfl, rfl, rfl⟩
    · by_cases hst : s = t
      · subst hst; simp [Cf.len, ho, Heap.get_set ht, hln]
      · simp only [Cf.len]; rw [Heap.get_set_ne (Ne.symm hst)]; exact Nat.le_refl _
    · by_cases hst : s = t
      · subst hst; simp only [Cf.G, Heap.get_set ht] at hgl; simp only [Cf.G, ho]; rw [hln] at hgl; exact hgl
      · simp only [Cf.G] at hgl ⊢; rw [Heap.get_set_ne (Ne.symm hst)] at hgl; exact hgl
  have hget : ∀ s os, (c.σ.set t o').get s = some os → ∃ os', c.σ.get s = some os' ∧ os.own = os'.own := fun s os h => by
    by_cases hst : s = t
    · subst hst
      simp only [Heap.get_set ht, Option.some.injEq] at h
      subst h
      exact ⟨o, ho, hown⟩
    · rw [Heap.get_set_ne (Ne.symm hst)] at h; exact ⟨os, h, rfl⟩
  refine ⟨⟨fun s os hs => ?_, fun t1 t2 o1 o2 h1' h2 hw hne => ?_, hok.zlt⟩, hev⟩
  · by_cases hst : s = t
    · subst hst
      simp only [Heap.get_set ht, Option.some.injEq] at hs
      subst hs
      obtain ⟨cur1, fr1, hc1, hz1, hz1', hs1, hm1, hp1, hi1, hl1, ho1, hes1, hv1⟩ := hok.row ho hr
      have hold : ∀ (i : Nat) (el' : List DV), o'.els[i]? = some el' → ∃ el, o.els[i]? = some el := fun i el' h => by
        have hlt : i < o.els.length := by rw [← hlen]; exact (List.getElem?_eq_some_iff.1 h).1
        exact ⟨_, List.getElem?_eq_getElem hlt⟩
      refine RowOk.obj ⟨cur1, fr1, by rw [he]; exact hc1, fun h => hz1 (hown ▸ h), fun h => hz1' (hown ▸ h), hs1, hm1, hp1, by rw [he]; exact hi1, by rw [hlen]; exact hl1, ho1, fun el' hel' => ?_, fun i j el' x' hi hx => ?_⟩ (hown ▸ hr)
      · obtain ⟨i, hi⟩ := List.mem_iff_getElem?.1 hel'
        obtain ⟨el, hi0⟩ := hold i el' hi
        rw [(hel i el el' hi0 hi).1]; exact hes1 el (List.mem_of_getElem? hi0)
      · obtain ⟨el, hi0⟩ := hold i el' hi
        obtain ⟨h1, h2⟩ := hel i el el' hi0 hi
        have hlt : j < el.length := by rw [← h1]; exact (List.getElem?_eq_some_iff.1 hx).1
        obtain ⟨u, hu, hvu⟩ := hv1 i j el _ hi0 (List.getElem?_eq_getElem hlt)
        exact ⟨u, hu, (h2 j _ x' u (List.getElem?_eq_getElem hlt) hx hvu).ev hev⟩
    · simp only [Heap.get_set_ne (Ne.symm hst)] at hs
      exact (hok.obj s os hs).keep hev rfl rfl (fun _ h => h)
  · obtain ⟨o1', g1, k1⟩ := hget t1 o1 h1'
    obtain ⟨o2', g2, k2⟩ := hget t2 o2 h2
    exact hok.inj t1 t2 o1' o2' g1 g2 (k1 ▸ hw) hne

end Go.Proofs.Ytdkhlhfdjggbpaa.Cm
