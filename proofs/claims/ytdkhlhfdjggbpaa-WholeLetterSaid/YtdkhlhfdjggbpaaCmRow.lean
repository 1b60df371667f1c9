import Derived.Test.YtdkhlhfdjggbpaaCmMem
import Derived.Laws.BytesArg
set_option linter.unusedVariables false
set_option linter.unusedSimpArgs false
namespace Go.Proofs.Ytdkhlhfdjggbpaa.Cm
open Go.RowKit

/-- Cells that tell what is told, one by one. -/
structure FR (c : Cf) (l : List DV) (us : List Value) : Prop where
  len : us.length = l.length
  one : ∀ u ∈ us, u.oneCell' = true
  v : ∀ (j : Nat) (x : DV) (u : Value), l[j]? = some x → us[j]? = some u → V c x u
theorem FR.nil (c : Cf) : FR c [] [] := ⟨rfl, by simp, by simp⟩
theorem FR.append {c : Cf} {l m : List DV} {us vs : List Value} (h : FR c l us) (k : FR c m vs) : FR c (l ++ m) (us ++ vs) := by
  refine ⟨by simp [h.len, k.len], fun u hu => ?_, fun j x u hx hu => ?_⟩
  · rcases List.mem_append.1 hu with hu | hu
    · exact h.one u hu
    · exact k.one u hu
  · by_cases hj : j < l.length
    · rw [List.getElem?_append_left hj] at hx
      rw [List.getElem?_append_left (by rw [h.len]; exact hj)] at hu
      exact h.v j x u hx hu
    · rw [List.getElem?_append_right (by omega)] at hx
      rw [List.getElem?_append_right (by rw [h.len]; omega), h.len] at hu
      exact k.v _ x u hx hu
theorem FR.take {c : Cf} {l : List DV} {us : List Value} (h : FR c l us) (n : Nat) : FR c (l.take n) (us.take n) := by
  refine ⟨by simp [h.len], fun u hu => h.one u (List.mem_of_mem_take hu), fun j x u hx hu => ?_⟩
  rw [List.getElem?_take] at hx hu
  split at hx
  · rename_i hj; rw [if_pos hj] at hu; exact h.v j x u hx hu
  · cases hx
theorem FR.drop {c : Cf} {l : List DV} {us : List Value} (h : FR c l us) (n : Nat) : FR c (l.drop n) (us.drop n) := by
  refine ⟨by simp [h.len], fun u hu => h.one u (List.mem_of_mem_drop hu), fun j x u hx hu => ?_⟩
  rw [List.getElem?_drop] at hx hu
  exact h.v _ x u hx hu
theorem FR.splice {c : Cf} {l m : List DV} {us vs : List Value} (h : FR c l us) (k : FR c m vs) (j : Nat) : FR c (splice l j m) (splice us j vs) := by
  unfold Cm.splice
  rw [k.len]
  exact ((h.take j).append k).append (h.drop _)
theorem FR.plain {c : Cf} {us : List Value} (h : us.all Cm.plain = true) : FR c (us.map .sc) us :=
  ⟨by simp, fun u hu => plain_oneCell (List.all_eq_true.1 h u hu), V_map us h⟩
theorem FR.cells {c : Cf} {y : DV} {v : Value} (hv : V c y v) (hl : (cellsD y).all leaf = true) : FR c (cellsD y) v.cells.toList := by
  obtain ⟨h1, h2, h3⟩ := cellsD_V hv hl
  exact ⟨by simpa using h1, h2, h3⟩
theorem FR.ev {c c' : Cf} {l : List DV} {us : List Value} (h : FR c l us) (he : Ev c c') : FR c' l us := ⟨h.len, h.one, fun j x u hx hu => (h.v j x u hx hu).ev he⟩

theorem flat_length {els : List (List DV)} {sz : Nat} (h : ∀ el ∈ els, el.length = sz) : els.flatten.length = els.length * sz := by
  induction els with
  | nil => simp
  | cons e r ih =>
    rw [List.flatten_cons, List.length_append, ih (fun el hel => h el (List.mem_cons_of_mem _ hel)), h e List.mem_cons_self, List.length_cons, Nat.add_mul]; omega
theorem flat_get {sz : Nat} : ∀ {els : List (List DV)} (h : ∀ el ∈ els, el.length = sz) {i : Nat} {el : List DV} (hi : els[i]? = some el) {j : Nat} (hj : j < sz), els.flatten[i * sz + j]? = el[j]?
  | [], h, i, el, hi, j, hj => by simp at hi
  | e :: r, h, 0, el, hi, j, hj => by
    simp at hi; subst hi
    have := h e List.mem_cons_self
    rw [List.flatten_cons, Nat.zero_mul, Nat.zero_add, List.getElem?_append_left (by omega)]
  | e :: r, h, i + 1, el, hi, j, hj => by
    have he := h e List.mem_cons_self
    rw [List.flatten_cons, List.getElem?_append_right (by rw [he, Nat.add_mul]; omega)]
    have : (i + 1) * sz + j - e.length = i * sz + j := by rw [he, Nat.add_mul]; omega
    rw [this]
    exact flat_get (fun el hel => h el (List.mem_cons_of_mem _ hel)) (by simpa using hi) hj
/-- Elements by their cells. -/
theorem FR.els {c : Cf} {els : List (List DV)} {us : List Value} {sz : Nat} (h : FR c els.flatten us) (hes : ∀ el ∈ els, el.length = sz) (i j : Nat) (el : List DV) (x : DV) (hi : els[i]? = some el) (hj : el[j]? = some x) :
    ∃ u, us[i * sz + j]? = some u ∧ V c x u := by
  have hjl : j < sz := by rw [← hes el (List.mem_of_getElem? hi)]; exact (List.getElem?_eq_some_iff.1 hj).1
  have hf := flat_get hes hi hjl
  rw [hj] at hf
  have hlt : i * sz + j < us.length := by rw [h.len]; exact (List.getElem?_eq_some_iff.1 hf).1
  exact ⟨us[i * sz + j], List.getElem?_eq_getElem hlt, h.v _ x _ hf (List.getElem?_eq_getElem hlt)⟩
theorem FR.of_els {c : Cf} {us : List Value} {sz : Nat} : ∀ {els : List (List DV)} (hes : ∀ el ∈ els, el.length = sz) (hl : us.length = els.length * sz) (h1 : ∀ u ∈ us, u.oneCell' = true) (hv : ∀ (i j : Nat) (el : List DV) (x : DV) (u : Value), els[i]? = some el → el[j]? = some x → us[i * sz + j]? = some u → V c x u), FR c els.flatten us := by
  intro els hes hl h1 hv
  refine ⟨by rw [flat_length hes, hl], h1, fun k x u hx hu => ?_⟩
  have hk : k < els.length * sz := by rw [← flat_length hes]; exact (List.getElem?_eq_some_iff.1 hx).1
  rcases Nat.eq_zero_or_pos sz with h0 | h0
  · subst h0; omega
  have hi : k / sz < els.length := Nat.div_lt_of_lt_mul (by rw [Nat.mul_comm]; exact hk)
  have hj : k % sz < sz := Nat.mod_lt _ h0
  have he : els[k / sz]? = some els[k / sz] := List.getElem?_eq_getElem hi
  have hkk : k / sz * sz + k % sz = k := by rw [Nat.mul_comm]; exact Nat.div_add_mod k sz
  have hf := flat_get hes he hj
  rw [hkk, hx] at hf
  exact hv _ _ _ x u he hf.symm (by rw [hkk]; exact hu)

/-- A row's own cells. -/
theorem ObjOk.fr {P : Program} {c : Cf} {t : Nat} {o : AObj} {cur : Array Value} (hle : o.els.length ≤ (c.μ t).cap) (hcs : cur.size = (c.μ t).cap * (c.μ t).sz) (h1 : ∀ u ∈ cur.toList, u.oneCell' = true) (hes : ∀ el ∈ o.els, el.length = (c.μ t).sz)
    (hv : ∀ (i j : Nat) (el : List DV) (x : DV), o.els[i]? = some el → el[j]? = some x → ∃ u, cur[i * (c.μ t).sz + j]? = some u ∧ V c x u) : FR c o.els.flatten (cur.toList.take (o.els.length * (c.μ t).sz)) := by
  have hfit : o.els.length * (c.μ t).sz ≤ cur.size := by rw [hcs]; exact Nat.mul_le_mul_right _ hle
  refine FR.of_els hes (by simp; omega) (fun u hu => h1 u (List.mem_of_mem_take hu)) (fun i j el x u hi hj hu => ?_)
  obtain ⟨u', hu', hv'⟩ := hv i j el x hi hj
  rw [List.getElem?_take] at hu
  split at hu
  · have : u = u' := by
      have h2 : cur.toList[i * (c.μ t).sz + j]? = cur[i * (c.μ t).sz + j]? := by simp
      rw [h2, hu'] at hu; exact (Option.some.inj hu).symm
    rw [this]; exact hv'
  · cases hu

/-- What a slice tells: its elements. -/
def sliceD (σ : Heap) : DV → Option (List (List DV))
  | .sc (.slice none 0 0) => some []
  | .imm l => some l
  | .sl t off len m => match getO σ t m with
    | some o => if off + len ≤ m then some ((o.els.drop off).take len) else none
    | none => none
  | _ => none

theorem flat_drop {els : List (List DV)} {sz : Nat} (h : ∀ el ∈ els, el.length = sz) (n : Nat) : (els.drop n).flatten = els.flatten.drop (n * sz) := by
  induction els generalizing n with
  | nil => simp
  | cons e r ih =>
    cases n with
    | zero => simp
    | succ n =>
      have he := h e List.mem_cons_self
      rw [List.drop_succ_cons, ih (fun el hel => h el (List.mem_cons_of_mem _ hel)), List.flatten_cons, List.drop_append]
      have : (n + 1) * sz - e.length = n * sz := by rw [he, Nat.add_mul]; omega
      have h2 : e.drop ((n + 1) * sz) = [] := List.drop_eq_nil_of_le (by rw [he, Nat.add_mul]; omega)
      rw [this, h2]; simp
theorem flat_take {els : List (List DV)} {sz : Nat} (h : ∀ el ∈ els, el.length = sz) (n : Nat) : (els.take n).flatten = els.flatten.take (n * sz) := by
  induction els generalizing n with
  | nil => simp
  | cons e r ih =>
    cases n with
    | zero => simp
    | succ n =>
      have he := h e List.mem_cons_self
      rw [List.take_succ_cons, List.flatten_cons, ih (fun el hel => h el (List.mem_cons_of_mem _ hel)), List.flatten_cons, List.take_append]
      have : (n + 1) * sz - e.length = n * sz := by rw [he, Nat.add_mul]; omega
      have h2 : e.take ((n + 1) * sz) = e := List.take_of_length_le (by rw [he, Nat.add_mul]; omega)
      rw [this, h2]

theorem slice_reads {P : Program} {c : Cf} (hok : Ok P c) {x : DV} {v : Value} {l : List (List DV)} (hv : V c x v) (h : sliceD c.σ x = some l) {size : Nat} (hall : ∀ el ∈ l, el.length = size) :
    ∃ A cp us, v = .slice A l.length cp ∧ l.length ≤ cp ∧ cp ≤ maxLen ∧ us.length = l.length * size ∧ (us ≠ [] → ∃ a, A = some a ∧ a.spot = none ∧ ∀ j u, us[j]? = some u → c.w.cell? (a.add j) = some u) ∧ (A = none → l = []) ∧ FR c l.flatten us := by
  cases hv with
  | sc hp =>
    unfold sliceD at h
    split at h
    · rename_i he
      cases he; cases h
      exact ⟨none, 0, [], rfl, Nat.le_refl _, by simp [maxLen], by simp, by simp, fun _ => rfl, FR.nil c⟩
    · rename_i he; cases he
    · rename_i he; cases he
    · cases h
  | imm hc hm hsz hl hA h0 h1 hv =>
    rename_i l' sz A cp us
    simp only [sliceD, Option.some.injEq] at h
    subst h
    have hszz : l' ≠ [] → sz = size := fun hne => by
      obtain ⟨el, hel⟩ := List.exists_mem_of_ne_nil l' hne
      rw [← hsz el hel, hall el hel]
    have hul : us.length = l'.length * size := by
      by_cases hne : l' = []
      · subst hne; simpa using hl
      · rw [hl, hszz hne]
    refine ⟨A, cp, us, rfl, hc, hm, hul, fun hne => ?_, fun e => (h0 e).1, FR.of_els hall hul h1 (fun i j el x u hi hj hu => ?_)⟩
    · obtain ⟨a, e, hsp, _, hs⟩ := hA hne
      exact ⟨a, e, hsp, hs⟩
    · have hne : l' ≠ [] := by intro e; subst e; simp at hi
      exact hv i j el x u hi hj (by rw [hszz hne]; exact hu)
  | sl ht hmm hcl h' =>
    rename_i t off len m a cp
    simp only [sliceD] at h
    split at h
    · rename_i o ho
      obtain ⟨ho, hm, hrw⟩ := getO_eq ho
      split at h
      · rename_i hfit
        cases h
        obtain ⟨cur, fr, hcur, _, _, hcs, hcm, hp, _, hle, h1, hes, hcv⟩ := hok.row ho hrw
        have hG : c.G t m = some (c.μ t) := by rw [← hm]; exact Cf.G_of ho hrw
        have hlen : ((o.els.drop off).take len).length = len := by simp; omega
        have hfr := ObjOk.fr (P := P) hle hcs h1 hes hcv
        have hfr2 := (hfr.drop (off * (c.μ t).sz)).take (len * (c.μ t).sz)
        have hes' : ∀ el ∈ o.els.drop off, el.length = (c.μ t).sz := fun el hel => hes el (List.mem_of_mem_drop hel)
        rw [← flat_drop hes, ← flat_take hes'] at hfr2
        by_cases hl0 : len = 0
        · subst hl0
          refine ⟨some a, cp, [], by simp, by simp, ?_, by simp, by simp, fun e => (by cases e), by simpa using FR.nil c⟩
          rcases h' _ hG with ⟨_, h2⟩ | ⟨_, h2, _⟩
          · omega
          · rw [h2]; simp [maxLen]
        · obtain ⟨ha, hcap⟩ : a = ⟨(c.μ t).blk, off * (c.μ t).sz, none⟩ ∧ off + cp = (c.μ t).cap := by
            rcases h' _ hG with h2 | ⟨h2, _⟩
            · exact h2
            · exact absurd h2 hl0
          have hszz : (c.μ t).sz = size := by
            have hlt : off < o.els.length := by omega
            have hmem : o.els[off] ∈ (o.els.drop off).take len := by
              refine List.mem_of_getElem? (i := 0) ?_
              rw [List.getElem?_take, if_pos (by omega), List.getElem?_drop, Nat.add_zero]
              exact List.getElem?_eq_getElem hlt
            rw [← hes _ (List.getElem_mem hlt), hall _ hmem]
          have hfit2 : (off + len) * (c.μ t).sz ≤ o.els.length * (c.μ t).sz := Nat.mul_le_mul_right _ (by omega)
          have hfit3 : o.els.length * (c.μ t).sz ≤ cur.size := by rw [hcs]; exact Nat.mul_le_mul_right _ hle
          rw [Nat.add_mul] at hfit2
          refine ⟨some a, cp, ((cur.toList.take (o.els.length * (c.μ t).sz)).drop (off * (c.μ t).sz)).take (len * (c.μ t).sz), by rw [hlen], by rw [hlen]; exact hcl, by omega, ?_, fun _ => ⟨a, rfl, by rw [ha], fun j u hu => ?_⟩, fun e => (by cases e), hfr2⟩
          · rw [hlen, ← hszz]; simp; omega
          · rw [List.getElem?_take] at hu
            split at hu
            · rw [List.getElem?_drop, List.getElem?_take] at hu
              split at hu
              · rw [ha, cell_lit (w := c.w) rfl, cell_of_row c.w _ _ cur _ fr hcur]
                simpa using hu
              · cases hu
            · cases hu
      · cases h
    · cases h
  | ifc h' => simp [sliceD] at h
  | mp => simp [sliceD] at h
  | it => simp [sliceD] at h
  | fn => simp [sliceD] at h
  | tup => simp [sliceD] at h
  | agg => simp [sliceD] at h
  | ptr => simp [sliceD] at h
  | ip => simp [sliceD] at h
  | full => simp [sliceD] at h
  | any => simp [sliceD] at h

theorem mem_zeroCells {z : Array Value} {n : Nat} {u : Value} (h : u ∈ (Builtin.zeroCells z n).toList) : u ∈ z.toList := by
  simp only [Builtin.zeroCells, Array.toList_map, List.mem_map, Array.toList_range, List.mem_range] at h
  obtain ⟨i, hi, rfl⟩ := h
  have hz : 0 < z.size := by rcases Nat.eq_zero_or_pos z.size with h0 | h0; rw [h0] at hi; simp at hi; exact h0
  have hlt : i % z.size < z.size := Nat.mod_lt _ hz
  simp [getElem!_pos z (i % z.size) hlt]
theorem mem_madeCells {z : Array Value} {n : Nat} {u : Value} (h : u ∈ (madeCells z n).toList) (hz : 0 < z.size) : u ∈ z.toList := by
  simp only [madeCells, Array.toList_map, List.mem_map, Array.toList_range, List.mem_range] at h
  obtain ⟨i, hi, rfl⟩ := h
  have hlt : i % z.size < z.size := Nat.mod_lt _ hz
  simp [getElem!_pos z (i % z.size) hlt]

/-- append. -/
def appendD (T : Tab) (σ : Heap) (ty : TypeId) (s x : DV) : Option (DV × Heap) :=
  match T ty with
  | some ⟨.slice e, _, _, _⟩ => match T e, sliceD σ x with
    | some ei, some l => if 0 < ei.size ∧ (l.all fun el => el.length == ei.size) = true then (match s with
      | .sc (.slice none 0 0) => if l.length = 0 then some (.sc (.slice none 0 0), σ) else if l.length * (ei.bytes + 1) ≤ 140737488355328 then some (.sl σ.n 0 l.length l.length, σ.push ⟨l, e, true⟩) else none
      | .sl t off len m => match getO σ t m with
        | some o => if off = 0 ∧ len = m ∧ o.own = true ∧ o.e = e then (if l.length = 0 then some (.sl t 0 m m, σ) else if (m + l.length) * (ei.bytes + 1) ≤ 140737488355328 then some (.sl t 0 (m + l.length) (m + l.length), σ.set t { o with els := o.els ++ l }) else none) else none
        | none => none
      | _ => none) else none
    | _, _ => none
  | _ => none

theorem bytes_small {n b : Nat} (h : n * (b + 1) ≤ 140737488355328) : n ≤ maxLen ∧ n * b ≤ 140737488355328 := by
  rw [Nat.mul_add, Nat.mul_one] at h
  exact ⟨by simp only [maxLen]; omega, by omega⟩

theorem AOp.append {P : Program} {T : Tab} (hT : TOk P T) {o : Oper} {ts : List DV} {σ : Heap} {K : DV → Heap → Prop} {ty : TypeId} {s x : Operand} {d e : DV} {r : DV × Heap} (ho : o.op = .call { callee := .builtin .append, args := #[s, x], argTypes := #[ty, ty] })
    (hs : Cm.eval ts s = some d) (hx : Cm.eval ts x = some e) (hf : appendD T σ ty d e = some r) (hK : K r.1 r.2) : AOp P o ts σ K := by
  refine AOp.run (fun c hc hσ a hTR => ?_)
  subst hσ
  have hvs := hTR.eval hs
  have hvx := hTR.eval hx
  unfold appendD at hf
  split at hf
  · rename_i te sz0 by0 ze0 hty
    have hty := (hT _ _ hty).desc
    simp only [descOk] at hty
    split at hf
    · rename_i ei l hei hsl
      have ht := hT _ _ hei
      obtain ⟨i, z, hi, hisz, hiby, hiz, hzc⟩ := ht.info
      split at hf
      · rename_i hcond
        obtain ⟨hp, hall⟩ := hcond
        have hall : ∀ el ∈ l, el.length = ei.size := fun el hel => by simpa using List.all_eq_true.1 hall el hel
        obtain ⟨A, cp, us, hxe, hlc, hcm, hul, hcells, hAn, hfr⟩ := slice_reads hc hvx hsl hall
        have hz1 : ∀ n, ∀ u ∈ (Builtin.zeroCells z.cells n).toList, u.oneCell' = true := fun n u hu => by
          have := mem_zeroCells hu
          rw [hzc] at this
          exact plain_oneCell (List.all_eq_true.1 ht.plain u this)
        have hexec : ∀ (v1 : Value) v' w', a.eval s = v1 → (Builtin.append_ #[ty, ty] o.type #[v1, a.eval x]).run P c.w = .ok v' w' → (execOp a.eval o).run P c.w = .ok (.value v') w' := fun v1 v' w' h1 h2 => by
          subst h1
          simp only [execOp, ho, resolve, invoke, builtin, Sem.run_bind, Sem.run_pure, Result.andThen_ok, List.map_toArray, List.map_cons, List.map_nil, h2]
        split at hf
        · -- nil
          have hsv : a.eval s = .slice none 0 0 := by
            generalize a.eval s = v at hvs
            cases hvs with
            | sc _ => rfl
          split at hf
          · rename_i hl0
            cases hf
            have hl : l = [] := List.eq_nil_of_length_eq_zero hl0
            subst hl
            have hu : us = [] := List.eq_nil_of_length_eq_zero (by simpa using hul)
            subst hu
            refine ⟨_, _, c, hexec _ _ _ hsv (?_ : _ = Result.ok (Value.slice none 0 0) c.w), hc, Ev.refl c, .sc rfl, hK⟩
            rw [hxe]
            cases A <;> simp [Builtin.append_, run_underlying hty, sizeOf, typeInfo, hi, Builtin.lenOf, Builtin.firstCells, loadCells, loadCellsFrom]
          · rename_i hl0
            split at hf
            · rename_i hby
              cases hf
              obtain ⟨hb1, hb2⟩ := bytes_small hby
              have hl0' : 0 < l.length := Nat.pos_of_ne_zero hl0
              have hune : us ≠ [] := (fun e => by rw [e] at hul; have := Nat.mul_pos hl0' hp; simp at hul; omega)
              obtain ⟨ad, rfl, hsp, hcell⟩ := hcells hune
              have hr := run_append_nil (P := P) c.w ty o.type te i z hty hi hiz ad l.length cp us (by rw [hisz]; exact hul) hcell hl0' (by simp only [maxLen] at hb1; omega) (by rw [hiby]; omega)
              have hge := grownCap_ge c.w l.length 0 te
              have hcm2 := grownCap_le_maxLen c.w l.length 0 te hb1
              obtain ⟨h1', h2'⟩ := make hc (o := ⟨l, te, true⟩) rfl (loc := ⟨c.w.heap.size, grownCap c.w l.length 0 te, ei.size⟩) (w' := c.w.drew.alloc (.cells (us.toArray ++ Builtin.zeroCells z.cells (grownCap c.w l.length 0 te - l.length)) te))
                ⟨rfl, rfl, rfl, by simp, fun k hk _ => (Below.heap_alloc c.w.drew _ k hk)⟩ (Nat.le_refl _) (heap_alloc_new c.w.drew _)
                (by
                  have hzs : z.cells.size = ei.size := by rw [← Array.length_toList, hzc, ht.len]
                  simp only [Array.size_append, List.size_toArray, size_zeroCells, hzs, hul, ← Nat.add_mul]; congr 1; omega) hcm2 hp ht.isize hge
                (fun u hu => by
                  simp only [Array.toList_append, List.mem_append] at hu
                  rcases hu with hu | hu
                  · exact hfr.one u hu
                  · exact hz1 _ u hu) hall
                (fun i j el x hi hj => by
                  obtain ⟨u, hu, hv⟩ := hfr.els hall i j el x hi hj
                  refine ⟨u, ?_, hv⟩
                  have hlt := (List.getElem?_eq_some_iff.1 hu).1
                  rw [Array.getElem?_append_left (by simpa using hlt)]; simpa using hu)
              refine ⟨_, _, _, hexec _ _ _ hsv (by rw [hxe]; exact hr), h1', h2', ?_, hK⟩
              refine .sl (by simp) (by simp [Cf.len]) hge (fun loc hg => .inl ?_)
              simp only [Cf.G, Heap.get_push, AObj.ln_mk, if_true, Option.some.injEq] at hg
              subst hg
              simp
            · cases hf
        · -- a row of its own
          rename_i t off len m
          split at hf
          · rename_i ob hob0
            obtain ⟨hob, hm, hrw⟩ := getO_eq hob0
            clear hob0
            split at hf
            · rename_i hcond
              obtain ⟨rfl, rfl, hown, he⟩ := hcond
              obtain ⟨cur, fr, hcur, hz, _, hcs, hcm1, hp1, hiz1, hle, h1c, hes, hcv⟩ := hc.row hob hrw
              obtain ⟨rfl, hZ⟩ := hz hown
              have hszz : (c.μ t).sz = ei.size := by
                have := ht.isize; rw [← he, hiz1] at this; exact Option.some.inj this
              have hG : c.G t len = some (c.μ t) := by rw [← hm]; exact Cf.G_of hob hrw
              generalize hsv : a.eval s = sv at hvs
              have hvs' := hvs
              cases hvs with
              | sl ht2 hmm hcl h' =>
                rename_i ad0 cp0
                obtain ⟨ha0, hcap0⟩ : ad0 = ⟨(c.μ t).blk, 0, none⟩ ∧ cp0 = (c.μ t).cap := by
                  rcases h' _ hG with ⟨h2, h3⟩ | ⟨_, _, h4⟩
                  · exact ⟨by simpa using h2, by omega⟩
                  · exact absurd rfl h4
                subst ha0
                subst hcap0
                split at hf
                · rename_i hl0
                  cases hf
                  have hl : l = [] := List.eq_nil_of_length_eq_zero hl0
                  subst hl
                  refine ⟨_, _, c, hexec _ _ _ hsv (?_ : _ = Result.ok (Value.slice (some ⟨(c.μ t).blk, 0, none⟩) len (c.μ t).cap) c.w), hc, Ev.refl c, hvs', hK⟩
                  rw [hxe]
                  cases A <;> simp [Builtin.append_, run_underlying hty, sizeOf, typeInfo, hi, Builtin.lenOf, Builtin.firstCells, loadCells, loadCellsFrom, hcl, storeCells]
                · rename_i hl0
                  split at hf
                  · rename_i hby
                    cases hf
                    obtain ⟨hb1, hb2⟩ := bytes_small hby
                    have hl0' : 0 < l.length := Nat.pos_of_ne_zero hl0
                    have hune : us ≠ [] := (fun e => by rw [e] at hul; have := Nat.mul_pos hl0' hp; simp at hul; omega)
                    obtain ⟨ad, rfl, hsp, hcell⟩ := hcells hune
                    have hfr0 := ObjOk.fr (P := P) hle hcs h1c hes hcv
                    have hfit : ob.els.length * ei.size ≤ cur.size := by rw [hcs, hszz]; exact Nat.mul_le_mul_right _ hle
                    rw [hszz] at hfr0
                    have hall2 : ∀ el ∈ ob.els ++ l, el.length = ei.size := fun el hel => by
                      rcases List.mem_append.1 hel with h | h
                      · rw [← hszz]; exact hes el h
                      · exact hall el h
                    have hfr2 := hfr0.append hfr
                    rw [← List.flatten_append] at hfr2
                    have hn : ob.els.length = len := hm
                    by_cases hroom : len + l.length ≤ (c.μ t).cap
                    · have hfit2 : len * i.size + us.length ≤ cur.size := by rw [hul, hcs, hszz, hisz, ← Nat.add_mul]; exact Nat.mul_le_mul_right _ hroom
                      have hr := run_append_room (P := P) c.w ty o.type te i hty hi (c.μ t).blk len (c.μ t).cap cur (by rw [← he]; exact hcur) ad l.length cp us (by rw [hisz]; exact hul) hcell hfr.one hroom hfit2
                      rw [hisz] at hr hfit2
                      obtain ⟨h1', h2'⟩ := upd hc hob hown (o' := { ob with els := ob.els ++ l }) hown rfl (loc' := c.μ t) (w' := c.w.setRow (c.μ t).blk (cur.toList.take (len * ei.size) ++ us ++ cur.toList.drop (len * ei.size + us.length)).toArray)
                        ⟨rfl, rfl, rfl, by simp, fun k _ hk => setRow_other c.w _ k _ (fun e => hk (by simp [e]))⟩ (.inl rfl) rfl (.inl (by simp; omega)) (setRow_heap c.w _ cur _ ob.e _ hcur)
                        (by simp; rw [← hcs]; omega) hcm1 (by simp; omega)
                        (fun u hu => by
                          simp at hu
                          rcases hu with hu | hu | hu
                          · exact h1c u (List.mem_of_mem_take hu)
                          · exact hfr.one u hu
                          · exact h1c u (List.mem_of_mem_drop hu))
                        (fun el hel => by rw [hszz]; exact hall2 el hel)
                        (fun i' j el x hi' hj => by
                          rw [hszz]
                          obtain ⟨u, hu, hv⟩ := hfr2.els hall2 i' j el x hi' hj
                          refine ⟨u, ?_, hv⟩
                          have hlt := (List.getElem?_eq_some_iff.1 hu).1
                          rw [hn] at hu hlt
                          simp only [List.getElem?_toArray]
                          rw [List.getElem?_append_left hlt]; exact hu)
                      refine ⟨_, _, _, hexec _ _ _ hsv (by rw [hxe]; exact hr), h1', h2', ?_, hK⟩
                      have htl := Heap.lt hob
                      refine .sl (by simpa using htl) (by simp [Cf.len, Heap.get_set htl, AObj.ln, hown]; omega) hroom (fun loc hg => .inl ?_)
                      simp only [Cf.G, Heap.get_set htl, AObj.ln, hown, if_true] at hg
                      split at hg
                      · cases hg; simp
                      · cases hg
                    · have hcell0 : ∀ j v, (cur.toList.take (len * i.size))[j]? = some v → c.w.cell? ((⟨(c.μ t).blk, 0, none⟩ : Addr).add j) = some v := fun j v hj => by
                        rw [List.getElem?_take] at hj
                        split at hj
                        · rw [cell_lit (w := c.w) rfl, cell_of_row c.w _ _ cur _ (0, 0) hcur]; simpa using hj
                        · cases hj
                      have hr := run_append_grow (P := P) c.w ty o.type te i z hty hi hiz ⟨(c.μ t).blk, 0, none⟩ len (c.μ t).cap (cur.toList.take (len * i.size)) (by rw [hisz, ← hn]; simp; omega) hcell0 ad l.length cp us (by rw [hisz]; exact hul) hcell (by omega)
                        (by simp only [maxLen] at hb1; omega) (growslice_fits (by omega) (by rw [hiby]; omega))
                      rw [hisz] at hr
                      have hge := grownCap_ge c.w (len + l.length) (c.μ t).cap te
                      have hcm2 := grownCap_le_maxLen c.w (len + l.length) (c.μ t).cap te hb1
                      have hzs : z.cells.size = ei.size := by rw [← Array.length_toList, hzc, ht.len]
                      obtain ⟨h1', h2'⟩ := upd hc hob hown (o' := { ob with els := ob.els ++ l }) hown rfl (loc' := ⟨c.w.heap.size, grownCap c.w (len + l.length) (c.μ t).cap te, ei.size⟩)
                        (w' := c.w.drew.alloc (.cells ((cur.toList.take (len * ei.size)).toArray ++ us.toArray ++ Builtin.zeroCells z.cells (grownCap c.w (len + l.length) (c.μ t).cap te - (len + l.length))) te))
                        ⟨rfl, rfl, rfl, by simp, fun k hk _ => (Below.heap_alloc c.w.drew _ k hk)⟩ (.inr (Nat.le_refl _)) hszz.symm (.inl (by simp; omega)) (by rw [he]; exact heap_alloc_new c.w.drew _)
                        (by
                          rw [hn] at hfit
                          simp only [Array.size_append, List.size_toArray, size_zeroCells, hzs, hul, List.length_take, Array.length_toList, Nat.min_eq_left hfit, ← Nat.add_mul]; congr 1; omega) hcm2 (by simp; omega)
                        (fun u hu => by
                          simp only [Array.toList_append, List.mem_append] at hu
                          rcases hu with (hu | hu) | hu
                          · exact h1c u (List.mem_of_mem_take hu)
                          · exact hfr.one u hu
                          · exact hz1 _ u hu) hall2
                        (fun i' j el x hi' hj => by
                          obtain ⟨u, hu, hv⟩ := hfr2.els hall2 i' j el x hi' hj
                          refine ⟨u, ?_, hv⟩
                          have hlt := (List.getElem?_eq_some_iff.1 hu).1
                          rw [hn] at hu hlt
                          rw [Array.getElem?_append_left (by simpa using hlt)]
                          have : ((cur.toList.take (len * ei.size)).toArray ++ us.toArray) = ((cur.toList.take (len * ei.size)) ++ us).toArray := by simp
                          rw [this]; simpa using hu)
                      refine ⟨_, _, _, hexec _ _ _ hsv (by rw [hxe]; exact hr), h1', h2', ?_, hK⟩
                      have htl := Heap.lt hob
                      refine .sl (by simpa using htl) (by simp [Cf.len, Heap.get_set htl, AObj.ln, hown]; omega) hge (fun loc hg => .inl ?_)
                      simp only [Cf.G, Heap.get_set htl, AObj.ln, hown, if_true] at hg
                      split at hg
                      · cases hg; simp
                      · cases hg
                  · cases hf
            · cases hf
          · cases hf
        · cases hf
      · cases hf
    · cases hf
  · cases hf
end Go.Proofs.Ytdkhlhfdjggbpaa.Cm
