/- Going through a map that stands still. -/
import Derived.Test.YtcjlnaplkodgpaaCmLib2
import Derived.Maps.RangeRun
import Derived.Laws.Cover3
namespace Go.Proofs.Ytcjlnaplkodgpaa.Cm
open Go.RowKit
set_option linter.unusedVariables false
set_option linter.unusedSimpArgs false
/-- The stamp of an entry. -/
def stampAt (els : List (List DV)) (j : Nat) : DV := match els[j]? with | some [_, _, s] => s | _ => .any
/-- What goes through a map at clock k: the entries js are handed out. -/
def itEls (els : List (List DV)) (t k : Nat) (js : List Nat) : List (List DV) := [.mp t, .sc (.int .i64 (k : Nat))] :: js.map (fun j => [stampAt els j])
section
variable {P : Program} {T : Tab} {o : Oper} {ts : List DV} {σ : Heap} {K : DV → Heap → Prop}
/-- A map whose clock is told. -/
def MapAtK (P : Program) (c : Cf) (t : Nat) (els : List (List DV)) (ty k : Nat) : Prop :=
  ∃ kt et es, P.underlying ty = some (.map kt et) ∧ c.w.heap[(c.μ t).blk]? = some (.map es k) ∧ ¬ c.Z (c.μ t).blk ∧ es.size = els.length ∧ MapKept.Stamped es k ∧ (∀ e ∈ es.toList, ∃ l, keyOf P kt e.key = some l) ∧
    ∀ (i : Nat) (el : List DV) (e : MapEntry), els[i]? = some el → es[i]? = some e → ∃ k v, el = [k, v, .sc (.int .i64 e.born)] ∧ V c k e.key ∧ V c v e.val
theorem clash2 {a b k : Nat} (h : a + 2000000000 * (k + 1) = b) (h2 : b < 1000000000) : False := by omega
theorem clash3 {a b k j : Nat} (h : a + 2000000000 * (k + 1) = b + 2000000000 * (j + 1)) (h1 : a < 1000000000) (h2 : b < 1000000000) : a = b ∧ k = j := by omega
theorem clash4 {a k : Nat} (h : a + 2000000000 * (k + 1) = 1000000000) : False := by omega
theorem clash5 {a : Nat} (h : 1000000000 = a) (h1 : a < 1000000000) : False := by omega
theorem clash6 {a k : Nat} (h : 1000000000 = a + 2000000000 * (k + 1)) : False := by omega
theorem mapOkK {c : Cf} (hok : Ok P c) {t k : Nat} {els : List (List DV)} {ty : TypeId} (ho : c.σ.get t = some ⟨els, ty + 2000000000 * (k + 1), none⟩) (hty : ty < 1000000000) : MapAtK P c t els ty k := by
  rcases (hok.obj t _ ho).nrow rfl with ⟨ty', kt, et, es, clock, he, hlt, h⟩ | ⟨h, _⟩
  · rcases he with he | he
    · exact (clash2 he hlt).elim
    · obtain ⟨h1, h2⟩ := clash3 he hty hlt
      subst h1; subst h2
      exact ⟨kt, et, es, h⟩
  · exact (clash4 h).elim
theorem iterOkK {c : Cf} (hok : Ok P c) {q : Nat} {els : List (List DV)} (ho : c.σ.get q = some ⟨els, 1000000000, none⟩) : IterOk c q ⟨els, 1000000000, none⟩ := by
  rcases (hok.obj q _ ho).nrow rfl with ⟨ty', kt, et, es, clock, he, hlt, h⟩ | h
  · rcases he with he | he
    · exact (clash5 he hlt).elim
    · exact (clash6 he).elim
  · exact h
/-- A map, told with its clock, or without. -/
theorem reclock {c : Cf} (hok : Ok P c) {t : Nat} {els : List (List DV)} {ty ty1 ty2 : TypeId} (ho : c.σ.get t = some ⟨els, ty1, none⟩) (h : ∀ c', Ev c c' → c'.w = c.w → c'.μ t = c.μ t → (¬ c.Z (c.μ t).blk → ¬ c'.Z (c'.μ t).blk) → MapOk P c t ⟨els, ty1, none⟩ → MapOk P c' t ⟨els, ty2, none⟩) (hty : ty1 ≠ 1000000000) :
    ∃ c', c'.w = c.w ∧ c'.σ = c.σ.set t ⟨els, ty2, none⟩ ∧ Ok P c' ∧ Ev c c' := by
  have hm : MapOk P c t ⟨els, ty1, none⟩ := by
    rcases (hok.obj t _ ho).nrow rfl with h | ⟨h, _⟩
    · exact h
    · exact absurd h hty
  have hZ : ¬ c.Z (c.μ t).blk := by obtain ⟨_, _, _, _, _, _, _, _, _, hz, _⟩ := hm; exact hz
  obtain ⟨h1, h2⟩ := updG hok ho (o' := ⟨els, ty2, none⟩) (by simp) (by simp) (loc' := c.μ t) (w' := c.w) hZ ⟨rfl, rfl, rfl, Nat.le_refl _, fun _ _ _ => rfl⟩ (.inl rfl) (.inr ⟨rfl, rfl⟩) (by
    rintro c' rfl hev hz
    exact nrow_obj rfl (.inl (h _ hev rfl (by simp) (fun _ => by simpa using hz) hm)))
  exact ⟨{ c with σ := c.σ.set t ⟨els, ty2, none⟩, μ := fun s => if s = t then c.μ t else c.μ s, w := c.w }, rfl, rfl, h1, h2⟩
theorem AW.clock {code : Code} {Q : Exit → List DV → Heap → Prop} {t : Nat} {els : List (List DV)} {ty : TypeId} (hg : σ.get t = some ⟨els, ty, none⟩) (hlt : ty < 1000000000) (h : ∀ k : Nat, AW P code ts (σ.set t ⟨els, ty + 2000000000 * (k + 1), none⟩) Q) : AW P code ts σ Q := AW.on (fun c hc hσ a hT => by
  subst hσ
  obtain ⟨_, kt, et, es, clock, hu, hb, hz, hs, hst, hkk, hv⟩ := mapOk hc hg hlt
  obtain ⟨c', hw, hσ', h1, h2⟩ := reclock hc hg (ty := ty) (ty2 := ty + 2000000000 * (clock + 1)) (fun c' hev hw hμ hz' hm => ⟨ty, kt, et, es, clock, .inr rfl, hlt, hu, by rw [hw, hμ]; exact hb, hz' hz, hs, hst, hkk, fun i el e hi he => by
    obtain ⟨k, v, r1, r2, r3⟩ := hv i el e hi he
    exact ⟨k, v, r1, r2.ev hev, r3.ev hev⟩⟩) (fun e => clash5 e.symm hlt)
  exact ⟨c', ts, hw, h1, h2, hT.ev h2, by rw [hσ']; exact h clock⟩)
theorem AW.unclock {code : Code} {Q : Exit → List DV → Heap → Prop} {t k : Nat} {els : List (List DV)} {ty : TypeId} (hg : σ.get t = some ⟨els, ty + 2000000000 * (k + 1), none⟩) (hlt : ty < 1000000000) (h : AW P code ts (σ.set t ⟨els, ty, none⟩) Q) : AW P code ts σ Q := AW.on (fun c hc hσ a hT => by
  subst hσ
  obtain ⟨kt, et, es, hu, hb, hz, hs, hst, hkk, hv⟩ := mapOkK hc hg hlt
  obtain ⟨c', hw, hσ', h1, h2⟩ := reclock hc hg (ty := ty) (ty2 := ty) (fun c' hev hw hμ hz' hm => ⟨ty, kt, et, es, k, .inl rfl, hlt, hu, by rw [hw, hμ]; exact hb, hz' hz, hs, hst, hkk, fun i el e hi he => by
    obtain ⟨k, v, r1, r2, r3⟩ := hv i el e hi he
    exact ⟨k, v, r1, r2.ev hev, r3.ev hev⟩⟩) (fun e => clash4 e)
  exact ⟨c', ts, hw, h1, h2, hT.ev h2, by rw [hσ']; exact h⟩)
theorem it_V {c : Cf} {q : Nat} {v : Value} {ob : AObj} (h : V c (.it q) v) (ho : c.σ.get q = some ob) (hn : ob.own = none) : v = .pointer (some ⟨(c.μ q).blk, 0, none⟩) := by
  cases h with
  | it ht h => rw [h _ (Cf.G_none ho hn)]
theorem AOp.rangeMap (hT : TOk P T) {ty kt et : TypeId} {s1 b1 : Nat} {z1 : List Value} {x : Operand} {t k : Nat} {els : List (List DV)} (ho : o.op = .range ty x) (hty : T ty = some ⟨.map kt et, s1, b1, z1⟩) (hlt : ty < 1000000000) (hx : Cm.eval ts x = some (.mp t)) (hg : σ.get t = some ⟨els, ty + 2000000000 * (k + 1), none⟩)
    (hK : K (.it σ.n) (σ.push ⟨itEls els t k [], 1000000000, none⟩)) : AOp P o ts σ K := by
  refine AOp.run (fun c hc hσ a hTR => ?_)
  subst hσ
  have hu : P.underlying ty = some (.map kt et) := (hT _ _ hty).desc
  have hxv := hTR.eval hx
  have e1 := mp_V hxv hg rfl
  obtain ⟨kt', et', es, hu', hb, hz, hs, hst, hkk, hv⟩ := mapOkK hc hg hlt
  rw [e1] at hxv
  obtain ⟨h1, h2⟩ := makeG hc (o := ⟨itEls els t k [], 1000000000, none⟩) (loc := ⟨c.w.heap.size, 0, 0⟩) (w' := c.w.alloc (.mapIter (some (c.μ t).blk) k #[] k)) (World.grownBy_alloc _ _ _) (Nat.le_refl _) (by
    rintro c' rfl hev hZ
    refine nrow_obj rfl (.inr ⟨rfl, t, k, #[], (c.μ t).blk, ?_, by simpa using hZ, hxv.ev hev, rfl⟩)
    simpa using (MapKept.heap_alloc c.w _).1)
  refine ⟨.pointer (some ⟨c.w.heap.size, 0, none⟩), .it c.σ.n, _, ?_, h1, h2, .it (by simp) (fun loc hg => ?_), hK⟩
  · simp [execOp, ho, e1, Instr.range, run_underlying hu, MapKept.run_getObj_map hb, newObj, Sem.run, Result.andThen]
  · simp only [Cf.G, Heap.get_push, AObj.ln, if_true, Option.some.injEq] at hg
    rw [← hg]
/-- What an iterator's own block says. -/
theorem iter_at {c : Cf} (hok : Ok P c) {q t k : Nat} {els : List (List DV)} {ty : TypeId} {js : List Nat} (hq : c.σ.get q = some ⟨itEls els t k js, 1000000000, none⟩) (hg : c.σ.get t = some ⟨els, ty + 2000000000 * (k + 1), none⟩) :
    ∃ seen : Array Nat, c.w.heap[(c.μ q).blk]? = some (.mapIter (some (c.μ t).blk) k seen k) ∧ ¬ c.Z (c.μ q).blk ∧ V c (.mp t) (.map (some (c.μ t).blk)) ∧ js.map (fun j => [stampAt els j]) = seen.toList.map (fun s => [.sc (.int .i64 (s : Nat))]) := by
  obtain ⟨_, m, k', seen, b, hb, hz, hv, he⟩ := iterOkK hok hq
  have he' : itEls els t k js = [.mp m, .sc (.int .i64 (k' : Nat))] :: seen.toList.map (fun s => [.sc (.int .i64 (s : Nat))]) := he
  unfold itEls at he'
  injection he' with h1 h2
  injection h1 with h3 h4
  injection h3 with h5
  injection h4 with h6
  injection h6 with h7
  injection h7 with h8 h9
  have hkk : k = k' := by omega
  subst h5; subst hkk
  have := mp_V hv hg rfl
  injection this with hbb
  injection hbb with hbb
  subst hbb
  exact ⟨seen, hb, hz, hv, h2⟩
theorem seen_iff {c : Cf} {els : List (List DV)} {js : List Nat} {seen : Array Nat} {es : Array MapEntry} {k : Nat} (hst : MapKept.Stamped es k) (hs : es.size = els.length) (hv : ∀ (i : Nat) (el : List DV) (e : MapEntry), els[i]? = some el → es[i]? = some e → ∃ k v, el = [k, v, .sc (.int .i64 e.born)] ∧ V c k e.key ∧ V c v e.val)
    (hj : ∀ j ∈ js, j < els.length) (h : js.map (fun j => [stampAt els j]) = seen.toList.map (fun s => [DV.sc (.int .i64 (s : Nat))])) {i : Nat} {e : MapEntry} (he : es[i]? = some e) : e.born ∈ seen ↔ i ∈ js := by
  have hborn : ∀ j, ∀ (hj : j < es.size), stampAt els j = .sc (.int .i64 ((es[j]'hj).born : Nat)) := by
    intro j hj
    have hjl : j < els.length := by omega
    obtain ⟨kd, v, h1, _⟩ := hv j _ _ (List.getElem?_eq_getElem hjl) (Array.getElem?_eq_getElem hj)
    unfold stampAt
    rw [List.getElem?_eq_getElem hjl, h1]
  have hil : i < es.size := (Array.getElem?_eq_some_iff.1 he).1
  have hei : es[i] = e := by rw [Array.getElem?_eq_getElem hil] at he; exact Option.some.inj he
  have hmem : ∀ d : List DV, d ∈ js.map (fun j => [stampAt els j]) ↔ d ∈ seen.toList.map (fun s => [DV.sc (.int .i64 (s : Nat))]) := fun d => by rw [h]
  constructor
  · intro hm
    have : [DV.sc (.int .i64 (e.born : Nat))] ∈ seen.toList.map (fun s => [DV.sc (.int .i64 (s : Nat))]) := List.mem_map.2 ⟨e.born, by simpa using hm, rfl⟩
    obtain ⟨j, hjm, hje⟩ := List.mem_map.1 ((hmem _).2 this)
    have hjs : j < es.size := by have := hj j hjm; omega
    rw [hborn j hjs] at hje
    have hbe : (es[j]'hjs).born = e.born := by simp at hje; omega
    have hnd := hst.2.1
    have hji : j = i := by
      have h1 : (es.toList.map (·.born))[j]? = some e.born := by simp [hjs, hbe]
      have h2 : (es.toList.map (·.born))[i]? = some e.born := by simp [hil, hei]
      exact (List.getElem?_inj (by simpa using hjs) hnd).1 (h1.trans h2.symm)
    rw [← hji]; exact hjm
  · intro hm
    have : [stampAt els i] ∈ js.map (fun j => [stampAt els j]) := List.mem_map.2 ⟨i, hm, rfl⟩
    obtain ⟨s, hs1, hs2⟩ := List.mem_map.1 ((hmem _).1 this)
    rw [hborn i hil, hei] at hs2
    have : s = e.born := by simp at hs2; omega
    rw [← this]; simpa using hs1
theorem AOp.next_over (hT : TOk P T) {ty : TypeId} {x : Operand} {q t k : Nat} {els : List (List DV)} {js : List Nat} (ho : o.op = .next x false) (hlt : ty < 1000000000) (hx : Cm.eval ts x = some (.it q)) (hq : σ.get q = some ⟨itEls els t k js, 1000000000, none⟩) (hg : σ.get t = some ⟨els, ty + 2000000000 * (k + 1), none⟩)
    (hj : ∀ j ∈ js, j < els.length) (hall : ∀ i, i < els.length → i ∈ js) (hK : K (.tup [.sc (.bool false)]) σ) : AOp P o ts σ K := by
  refine AOp.run (fun c hc hσ a hTR => ?_)
  subst hσ
  have e1 := it_V (hTR.eval hx) hq rfl
  obtain ⟨kt', et', es, hu', hb, hz, hs, hst, hkk, hv⟩ := mapOkK hc hg hlt
  obtain ⟨seen, hr, hrz, hmv, hse⟩ := iter_at hc hq hg
  have hleft : (leftOf es seen).size = 0 := by
    unfold leftOf
    have : es.filter (fun e => !seen.contains e.born) = #[] := by
      rw [Array.filter_eq_empty_iff]
      intro e he
      obtain ⟨i, hi, rfl⟩ := Array.mem_iff_getElem.1 he
      have := (seen_iff hst hs hv hj hse (Array.getElem?_eq_getElem hi)).2 (hall i (by omega))
      simpa using this
    rw [this]; rfl
  rcases run_next_at (P := P) c.w o.type (c.μ q).blk (c.μ t).blk k k seen es k hr hb hst.1 (Nat.le_refl _) with ⟨_, hrun⟩ | ⟨e, he, _⟩
  · refine ⟨.tuple #[.bool false], .tup [.sc (.bool false)], c, ?_, hc, Ev.refl c, V.tup (l := [.sc (.bool false)]) (us := [.bool false]) rfl (fun j x u hx hu => ?_), hK⟩
    · simp [execOp, ho, e1, hrun, Result.andThen]
    · rcases j with _ | j
      · simp at hx hu; subst hx; subst hu; exact .sc rfl
      · simp at hx
  · have hpos := List.length_pos_of_mem he
    rw [Array.length_toList] at hpos
    omega
theorem AOp.next_some (hT : TOk P T) {ty : TypeId} {x : Operand} {q t k : Nat} {els : List (List DV)} {js : List Nat} (ho : o.op = .next x false) (hlt : ty < 1000000000) (hx : Cm.eval ts x = some (.it q)) (hq : σ.get q = some ⟨itEls els t k js, 1000000000, none⟩) (hg : σ.get t = some ⟨els, ty + 2000000000 * (k + 1), none⟩)
    (hj : ∀ j ∈ js, j < els.length) (hsome : ∃ i, i < els.length ∧ i ∉ js) (hK : ∀ i kd v sd, i ∉ js → els[i]? = some [kd, v, sd] → K (.tup [.sc (.bool true), kd, v]) (σ.set q ⟨itEls els t k (js ++ [i]), 1000000000, none⟩)) : AOp P o ts σ K := by
  refine AOp.run (fun c hc hσ a hTR => ?_)
  subst hσ
  have e1 := it_V (hTR.eval hx) hq rfl
  obtain ⟨kt', et', es, hu', hb, hz, hs, hst, hkk, hv⟩ := mapOkK hc hg hlt
  obtain ⟨seen, hr, hrz, hmv, hse⟩ := iter_at hc hq hg
  rcases run_next_at (P := P) c.w o.type (c.μ q).blk (c.μ t).blk k k seen es k hr hb hst.1 (Nat.le_refl _) with ⟨h0, hrun⟩ | ⟨e, he, w1, hw1, hrun⟩
  · exfalso
    obtain ⟨i, hi, hni⟩ := hsome
    have hie : i < es.size := by omega
    have hnm : ¬ (es[i]).born ∈ seen := fun h => hni ((seen_iff hst hs hv hj hse (Array.getElem?_eq_getElem hie)).1 h)
    have : es[i] ∈ leftOf es seen := by
      unfold leftOf
      rw [Array.mem_filter]
      exact ⟨Array.getElem_mem hie, by simpa using hnm⟩
    have := Array.size_pos_of_mem this
    omega
  · have he2 : e ∈ leftOf es seen := by simpa using he
    unfold leftOf at he2
    rw [Array.mem_filter] at he2
    obtain ⟨i, hi, rfl⟩ := Array.mem_iff_getElem.1 he2.1
    have hni : i ∉ js := fun h => by
      have := (seen_iff hst hs hv hj hse (Array.getElem?_eq_getElem hi)).2 h
      simp [this] at he2
    have hil : i < els.length := by omega
    obtain ⟨kd, v, hel, hkv, hvv⟩ := hv i _ _ (List.getElem?_eq_getElem hil) (Array.getElem?_eq_getElem hi)
    have hr1 : w1.heap = c.w.heap := by rcases hw1 with rfl | rfl <;> rfl
    have hset := MapKept.heap_set (w := w1) (o' := .mapIter (some (c.μ t).blk) k (seen.push (es[i]).born) k) (by rw [hr1]; exact hr)
    obtain ⟨h1, h2⟩ := updG hc hq (o' := ⟨itEls els t k (js ++ [i]), 1000000000, none⟩) (by simp) (by simp) (loc' := c.μ q) (w' := ChangeMaps.setBlock w1 (c.μ q).blk (.mapIter (some (c.μ t).blk) k (seen.push (es[i]).born) k)) hrz
      (by
        refine ⟨?_, ?_, ?_, ?_, fun b hb hne => ?_⟩
        · rcases hw1 with rfl | rfl <;> rfl
        · rcases hw1 with rfl | rfl <;> rfl
        · rcases hw1 with rfl | rfl <;> rfl
        · simp [ChangeMaps.setBlock, hr1]
        · have := hset.2 b (fun e => hne (by rw [e]))
          unfold ChangeMaps.setBlock
          simp only [hr1] at this ⊢
          exact this) (.inl rfl) (.inr ⟨rfl, rfl⟩) (by
      rintro c' rfl hev hZ
      refine nrow_obj rfl (.inr ⟨rfl, t, k, seen.push (es[i]).born, (c.μ t).blk, by simpa [ChangeMaps.setBlock] using hset.1, by simpa using hrz, hmv.ev hev, ?_⟩)
      simp only [itEls, List.map_append, List.map_cons, List.map_nil, Array.toList_push, hse]
      simp [stampAt, hel, hil])
    refine ⟨.tuple #[.bool true, (es[i]).key, (es[i]).val], .tup [.sc (.bool true), kd, v], _, ?_, h1, h2, V.tup (l := [.sc (.bool true), kd, v]) (us := [.bool true, (es[i]).key, (es[i]).val]) rfl (fun j x u hx hu => ?_), hK i kd v _ hni (by rw [List.getElem?_eq_getElem hil, hel])⟩
    · simp [execOp, ho, e1, hrun, Result.andThen]
    · match j with
      | 0 => simp at hx hu; subst hx; subst hu; exact .sc rfl
      | 1 => simp at hx hu; subst hx; subst hu; exact hkv.ev h2
      | 2 => simp at hx hu; subst hx; subst hu; exact hvv.ev h2
      | j + 3 => simp at hx
theorem AOp.entry (hT : TOk P T) {ty : TypeId} {x : Operand} {q t k : Nat} {els : List (List DV)} {js : List Nat} {i : Nat} {kd v sd : DV} (ho : o.op = .entry x) (hlt : ty < 1000000000) (hx : Cm.eval ts x = some (.it q)) (hq : σ.get q = some ⟨itEls els t k (js ++ [i]), 1000000000, none⟩) (hg : σ.get t = some ⟨els, ty + 2000000000 * (k + 1), none⟩)
    (hel : els[i]? = some [kd, v, sd]) (hK : K (.tup [kd, v]) σ) : AOp P o ts σ K := by
  refine AOp.run (fun c hc hσ a hTR => ?_)
  subst hσ
  have e1 := it_V (hTR.eval hx) hq rfl
  obtain ⟨kt', et', es, hu', hb, hz, hs, hst, hkk, hv⟩ := mapOkK hc hg hlt
  obtain ⟨seen, hr, hrz, hmv, hse⟩ := iter_at hc hq hg
  have hil : i < els.length := (List.getElem?_eq_some_iff.1 hel).1
  have hi : i < es.size := by omega
  obtain ⟨kd', v', hel', hkv, hvv⟩ := hv i _ _ hel (Array.getElem?_eq_getElem hi)
  injection hel' with a1 a2
  injection a2 with a2 a3
  injection a3 with a3 a4
  subst a1; subst a2; subst a3
  have hsn : seen.toList ≠ [] := by intro e; rw [e] at hse; simp at hse
  obtain ⟨L, s, hL⟩ : ∃ L s, seen.toList = L ++ [s] := ⟨seen.toList.dropLast, seen.toList.getLast hsn, (List.dropLast_concat_getLast hsn).symm⟩
  rw [hL, List.map_append, List.map_append] at hse
  have hlast := congrArg List.getLast? hse
  simp [stampAt, hel] at hlast
  have hsb : s = (es[i]).born := by omega
  have hpush : seen = L.toArray.push (es[i]).born := by
    apply Array.toList_inj.1
    rw [hL, hsb]; simp
  rw [hpush] at hr
  have hrun := run_entry_at (P := P) c.w (c.μ q).blk (c.μ t).blk k L.toArray es k es[i] hr hb (by simp) hst.2.1
  refine ⟨.tuple #[(es[i]).key, (es[i]).val], .tup [kd, v], c, ?_, hc, Ev.refl c, V.tup (l := [kd, v]) (us := [(es[i]).key, (es[i]).val]) rfl (fun j x u hx hu => ?_), hK⟩
  · simp [execOp, ho, e1, hrun, Result.andThen]
  · match j with
    | 0 => simp at hx hu; subst hx; subst hu; exact hkv
    | 1 => simp at hx hu; subst hx; subst hu; exact hvv
    | j + 2 => simp at hx
/-- A map is not nil. -/
theorem AOp.neqNilMap (hT : TOk P T) {ty yt kt et : TypeId} {x y : Operand} {s1 b1 t : Nat} {z1 : List Value} (ho : o.op = .binOp .neq ty x y yt) (hx : Cm.eval ts x = some (.mp t)) (hy : Cm.eval ts y = some (.sc (.map none))) (hty : T ty = some ⟨.map kt et, s1, b1, z1⟩) (hK : K (.sc (.bool true)) σ) : AOp P o ts σ K := by
  refine AOp.run (fun c hc hσ a hTR => ?_)
  obtain ⟨h2, _⟩ := (hTR.eval hy).plain_inv
  have hv := hTR.eval hx
  have hu : P.underlying ty = some (.map kt et) := (hT _ _ hty).desc
  generalize hax : a.eval x = ax at hv
  cases hv with
  | mp ht h =>
    rename_i b
    have hg : eqGuard .neq ty x y (.map (some b)) (.map none) = pure () := eqGuard_at_map ..
    refine ⟨.bool true, _, c, ?_, hc, Ev.refl c, .sc rfl, by rw [hσ]; exact hK⟩
    simp only [execOp, ho, h2, hax, hg]
    have : binOp .neq ty (.map (some b)) (.map none) = (do pure (.bool (!(← Op.equal ty (.map (some b)) (.map none))))) := rfl
    rw [this]
    simp only [Sem.run_bind, Sem.run_pure, Result.andThen_ok, run_equal_map_nil c.w ty kt et _ hu]; rfl
/-- A nil map is nil. -/
theorem AOp.neqNilMap0 (hT : TOk P T) {ty yt kt et : TypeId} {x y : Operand} {s1 b1 : Nat} {z1 : List Value} (ho : o.op = .binOp .neq ty x y yt) (hx : Cm.eval ts x = some (.sc (.map none))) (hy : Cm.eval ts y = some (.sc (.map none))) (hty : T ty = some ⟨.map kt et, s1, b1, z1⟩) (hK : K (.sc (.bool false)) σ) : AOp P o ts σ K := by
  refine AOp.run (fun c hc hσ a hTR => ?_)
  obtain ⟨h1, _⟩ := (hTR.eval hx).plain_inv
  obtain ⟨h2, _⟩ := (hTR.eval hy).plain_inv
  have hu : P.underlying ty = some (.map kt et) := (hT _ _ hty).desc
  have hg : eqGuard .neq ty x y (.map none) (.map none) = pure () := eqGuard_at_map ..
  refine ⟨.bool false, _, c, ?_, hc, Ev.refl c, .sc rfl, by rw [hσ]; exact hK⟩
  simp only [execOp, ho, h1, h2, hg]
  have : binOp .neq ty (.map none) (.map none) = (do pure (.bool (!(← Op.equal ty (.map none) (.map none))))) := rfl
  rw [this]
  simp only [Sem.run_bind, Sem.run_pure, Result.andThen_ok, run_equal_map_nil c.w ty kt et _ hu]; rfl
end
end Go.Proofs.Ytcjlnaplkodgpaa.Cm
