import Derived.Test.YtcjlnaplkodgpaaCmRun
set_option linter.unusedVariables false
set_option linter.unusedSimpArgs false
namespace Go.Proofs.Ytcjlnaplkodgpaa.Cm
open Go.RowKit

/-- A key's value. -/
def kval : DV → Option Value
  | .sc v => some v
  | .agg l => match kvals l with | some vs => some (.agg vs.toArray) | none => none
  | _ => none
theorem kval_V {c : Cf} {d : DV} {v v0 : Value} (h : V c d v) (hk : kval d = some v0) : v = v0 := by
  cases h with
  | sc h => simp only [kval, Option.some.injEq] at hk; exact hk
  | agg hl hv =>
    simp only [kval] at hk
    split at hk
    · rename_i vs hvs; cases hk; rw [kvals_V hvs hl hv]
    · cases hk
  | _ => simp [kval] at hk

section
variable {P : Program} {T : Tab} {o : Oper} {ts : List DV} {σ : Heap} {K : DV → Heap → Prop}

theorem AOp.runU (h : ∀ c, Ok P c → c.σ = σ → ∀ a, TR c ts a → ∃ c', (execOp a.eval o).run P c.w = .ok .skip c'.w ∧ Ok P c' ∧ Ev c c' ∧ K (.tup []) c'.σ) : AOp P o ts σ K := by
  intro c hc hσ a hT next Q hn
  obtain ⟨c', hr, h1, h2, h4⟩ := h c hc hσ a hT
  unfold Oper.wp; rw [hr]; exact hn undef (.tup []) c' h1 h2 V_undef h4
theorem mp_V {c : Cf} {t : Nat} {v : Value} {ob : AObj} (h : V c (.mp t) v) (ho : c.σ.get t = some ob) (hn : ob.own = none) : v = .map (some (c.μ t).blk) := by
  cases h with
  | mp ht h => rw [h _ (Cf.G_none ho hn)]

/-- A map, its clock not told. -/
def MapAt (P : Program) (c : Cf) (t : Nat) (els : List (List DV)) (ty : TypeId) : Prop :=
  ty < 1000000000 ∧ ∃ kt et es clock, P.underlying ty = some (.map kt et) ∧ c.w.heap[(c.μ t).blk]? = some (.map es clock) ∧ ¬ c.Z (c.μ t).blk ∧ es.size = els.length ∧ MapKept.Stamped es clock ∧ (∀ e ∈ es.toList, ∃ l, keyOf P kt e.key = some l) ∧
    ∀ (i : Nat) (el : List DV) (e : MapEntry), els[i]? = some el → es[i]? = some e → ∃ k v, el = [k, v, .sc (.int .i64 e.born)] ∧ V c k e.key ∧ V c v e.val
theorem clash1 {a b k : Nat} (h : a = b + 2000000000 * (k + 1)) (h2 : a < 1000000000) : False := by omega
theorem mapOk {c : Cf} (hok : Ok P c) {t : Nat} {els : List (List DV)} {ty : TypeId} (ho : c.σ.get t = some ⟨els, ty, none⟩) (hty : ty < 1000000000) : MapAt P c t els ty := by
  rcases (hok.obj t _ ho).nrow rfl with ⟨ty', kt, et, es, clock, he, hlt, h⟩ | ⟨h, _⟩
  · rcases he with he | he
    · have he' : ty = ty' := he
      subst he'
      exact ⟨hty, kt, et, es, clock, h⟩
    · exact (clash1 he hty).elim
  · have h2 : ty = 1000000000 := h
    exact absurd hty (by rw [h2]; decide)

/-- Where a key stands: the find's answer, out of what is told. -/
theorem find_hit {c : Cf} {kt : TypeId} {es : Array MapEntry} {els : List (List DV)} {clock : Nat} (KT : Maps.Keyed P kt) (hst : MapKept.Stamped es clock) (hkk : ∀ e ∈ es.toList, ∃ l, keyOf P kt e.key = some l) (hs : es.size = els.length)
    (hv : ∀ (i : Nat) (el : List DV) (e : MapEntry), els[i]? = some el → es[i]? = some e → ∃ k v, el = [k, v, .sc (.int .i64 e.born)] ∧ V c k e.key ∧ V c v e.val)
    {v0 : Value} {l0 : Lit} (hl : keyOf P kt v0 = some l0) {i : Nat} {k' vd sd : DV} (hel : els[i]? = some [k', vd, sd]) (hk' : kval k' = some v0) (w : World) :
    ∃ e, es[i]? = some e ∧ e.key = v0 ∧ sd = .sc (.int .i64 e.born) ∧ V c k' e.key ∧ V c vd e.val ∧ (Instr.findKey kt v0 es.toList).run P w = .ok (some (i, e.val)) w := by
  have hi : i < es.size := by rw [hs]; exact (List.getElem?_eq_some_iff.1 hel).1
  have he : es[i]? = some es[i] := Array.getElem?_eq_getElem hi
  obtain ⟨k, v, h1, h2, h3⟩ := hv i _ _ hel he
  cases h1
  have hkey := kval_V h2 hk'
  refine ⟨es[i], he, hkey, rfl, h2, h3, ?_⟩
  have hp := ((MapKept.stamped_iff es clock).1 hst).2.2
  have hmem : es[i] ∈ es.toList := by rw [Array.mem_toList_iff]; exact Array.getElem_mem hi
  rcases KT.find w hl es.toList hkk with ⟨_, h⟩ | ⟨j, e, h, hj, hje⟩
  · exact absurd hkey (h _ hmem)
  · rw [h]
    have hjl : j < es.toList.length := (List.getElem?_eq_some_iff.1 hj).1
    have hej : e = es.toList[j] := by rw [List.getElem?_eq_getElem hjl] at hj; exact (Option.some.inj hj).symm
    have hil : i < es.toList.length := by simpa using hi
    have hij : j = i := by
      rcases Nat.lt_trichotomy j i with h | h | h
      · have := List.pairwise_iff_getElem.1 hp j i hjl hil h
        rw [← hej, hje] at this
        exact absurd hkey.symm (by simpa using this)
      · exact h
      · have := List.pairwise_iff_getElem.1 hp i j hil hjl h
        rw [← hej, hje] at this
        exact absurd hkey (by simpa using this)
    subst hij
    rw [hej]; simp
theorem find_miss {c : Cf} {kt : TypeId} {es : Array MapEntry} {els : List (List DV)} (KT : Maps.Keyed P kt) (hkk : ∀ e ∈ es.toList, ∃ l, keyOf P kt e.key = some l) (hs : es.size = els.length)
    (hv : ∀ (i : Nat) (el : List DV) (e : MapEntry), els[i]? = some el → es[i]? = some e → ∃ k v, el = [k, v, .sc (.int .i64 e.born)] ∧ V c k e.key ∧ V c v e.val)
    {v0 : Value} {l0 : Lit} (hl : keyOf P kt v0 = some l0) (hne : ∀ el ∈ els, ∃ k' v' r, el = k' :: r ∧ kval k' = some v' ∧ v' ≠ v0) (w : World) :
    (∀ e ∈ es.toList, e.key ≠ v0) ∧ (Instr.findKey kt v0 es.toList).run P w = .ok none w := by
  have hall : ∀ e ∈ es.toList, e.key ≠ v0 := by
    intro e he
    obtain ⟨i, hi⟩ := List.mem_iff_getElem?.1 he
    have hil : i < els.length := by rw [← hs]; simpa using (List.getElem?_eq_some_iff.1 hi).1
    obtain ⟨k, v, h1, h2, h3⟩ := hv i _ e (List.getElem?_eq_getElem hil) (by rw [← Array.getElem?_toList]; exact hi)
    obtain ⟨k', v', r, h4, h5, h6⟩ := hne _ (List.getElem_mem hil)
    rw [h1] at h4
    cases h4
    rw [kval_V h2 h5]; exact h6
  refine ⟨hall, ?_⟩
  rcases KT.find w hl es.toList hkk with ⟨h, _⟩ | ⟨j, e, h, hj, hje⟩
  · exact h
  · exact absurd hje (hall e (List.mem_of_getElem? hj))

theorem AOp.makeMap (hT : TOk P T) {ty kt et : TypeId} {s1 b1 : Nat} {z1 : List Value} (ho : o.op = .makeMap ty none) (hty : T ty = some ⟨.map kt et, s1, b1, z1⟩) (hlt : ty < 1000000000) (hK : K (.mp σ.n) (σ.push ⟨[], ty, none⟩)) : AOp P o ts σ K := by
  refine AOp.run (fun c hc hσ a hTR => ?_)
  subst hσ
  have hu : P.underlying ty = some (.map kt et) := (hT _ _ hty).desc
  obtain ⟨h1, h2⟩ := makeG hc (o := ⟨[], ty, none⟩) (loc := ⟨c.w.heap.size, 0, 0⟩) (w' := c.w.alloc (.map #[] 0)) (World.grownBy_alloc _ _ _) (Nat.le_refl _) (by
    rintro c' rfl hev hZ
    refine nrow_obj rfl (.inl ⟨ty, kt, et, #[], 0, .inl rfl, hlt, hu, ?_, by simpa using hZ, rfl, MapKept.stamped_empty 0, by simp, by simp⟩)
    simpa using (MapKept.heap_alloc c.w _).1)
  refine ⟨.map (some c.w.heap.size), .mp c.σ.n, _, ?_, h1, h2, .mp (by simp) (fun loc hg => ?_), hK⟩
  · simp [execOp, ho, Instr.makeMap, newObj, Sem.run]
  · simp only [Cf.G, Heap.get_push, AObj.ln, if_true, Option.some.injEq] at hg
    rw [← hg]

theorem AOp.lookup_hit (hT : TOk P T) {ty kt et : TypeId} {s1 b1 : Nat} {z1 : List Value} {ok : Bool} {x ix : Operand} {t : Nat} {kd : DV} {els : List (List DV)} {v0 : Value} {l0 : Lit} {i : Nat} {k' vd sd : DV}
    (ho : o.op = .lookup ty x ix ok) (hty : T ty = some ⟨.map kt et, s1, b1, z1⟩) (hlt : ty < 1000000000) (KT : Maps.Keyed P kt) (hx : Cm.eval ts x = some (.mp t)) (hix : Cm.eval ts ix = some kd) (hg : σ.get t = some ⟨els, ty, none⟩) (hk : kval kd = some v0) (hl : keyOf P kt v0 = some l0)
    (hel : els[i]? = some [k', vd, sd]) (hk' : kval k' = some v0) (hK : K (if ok = true then .tup [vd, .sc (.bool true)] else vd) σ) : AOp P o ts σ K := by
  refine AOp.val (fun c hc hσ a hTR => ?_) hK
  subst hσ
  have hu : P.underlying ty = some (.map kt et) := (hT _ _ hty).desc
  have e1 := mp_V (hTR.eval hx) hg rfl
  have e2 := kval_V (hTR.eval hix) hk
  obtain ⟨_, kt', et', es, clock, hu', hb, hz, hs, hst, hkk, hv⟩ := mapOk hc hg hlt
  rw [hu] at hu'; cases hu'
  replace hs : es.size = els.length := hs
  obtain ⟨e, he, hkey, hsd, hvk, hvv, hrun⟩ := find_hit KT hst hkk hs hv hl hel hk' c.w
  refine ⟨if ok then .tuple #[e.val, .bool true] else e.val, ?_, ?_⟩
  · simp [execOp, ho, e1, e2, Instr.lookup, run_underlying hu, MapKept.run_getObj_map hb, KT.check c.w _ hl, hrun, Result.andThen]
  · cases ok
    · exact hvv
    · exact V.tup (l := [vd, .sc (.bool true)]) (us := [e.val, .bool true]) rfl (fun j x u hx hu => by
        match j with
        | 0 => simp at hx hu; subst hx; subst hu; exact hvv
        | 1 => simp at hx hu; subst hx; subst hu; exact .sc rfl
        | j + 2 => simp at hx)
theorem AOp.lookup_miss (hT : TOk P T) {ty kt et : TypeId} {s1 b1 : Nat} {z1 : List Value} {ok : Bool} {x ix : Operand} {t : Nat} {kd zd : DV} {els : List (List DV)} {v0 z : Value} {l0 : Lit}
    (ho : o.op = .lookup ty x ix ok) (hty : T ty = some ⟨.map kt et, s1, b1, z1⟩) (hlt : ty < 1000000000) (KT : Maps.Keyed P kt) (hz : ∀ w, (zeroValue et).run P w = .ok z w) (hzd : dvOf z = some zd) (hx : Cm.eval ts x = some (.mp t)) (hix : Cm.eval ts ix = some kd) (hg : σ.get t = some ⟨els, ty, none⟩) (hk : kval kd = some v0) (hl : keyOf P kt v0 = some l0)
    (hne : ∀ el ∈ els, ∃ k' v' r, el = k' :: r ∧ kval k' = some v' ∧ v' ≠ v0) (hK : K (if ok = true then .tup [zd, .sc (.bool false)] else zd) σ) : AOp P o ts σ K := by
  refine AOp.val (fun c hc hσ a hTR => ?_) hK
  subst hσ
  have hu : P.underlying ty = some (.map kt et) := (hT _ _ hty).desc
  have e1 := mp_V (hTR.eval hx) hg rfl
  have e2 := kval_V (hTR.eval hix) hk
  obtain ⟨_, kt', et', es, clock, hu', hb, hzz, hs, hst, hkk, hv⟩ := mapOk hc hg hlt
  rw [hu] at hu'; cases hu'
  replace hs : es.size = els.length := hs
  obtain ⟨_, hrun⟩ := find_miss KT hkk hs hv hl hne c.w
  have hvv : V c zd z := dvOf_V hzd
  refine ⟨if ok then .tuple #[z, .bool false] else z, ?_, ?_⟩
  · simp [execOp, ho, e1, e2, Instr.lookup, run_underlying hu, MapKept.run_getObj_map hb, KT.check c.w _ hl, hrun, hz, Result.andThen]
  · cases ok
    · exact hvv
    · exact V.tup (l := [zd, .sc (.bool false)]) (us := [z, .bool false]) rfl (fun j x u hx hu => by
        match j with
        | 0 => simp at hx hu; subst hx; subst hu; exact hvv
        | 1 => simp at hx hu; subst hx; subst hu; exact .sc rfl
        | j + 2 => simp at hx)

/-- A map's block is written. -/
theorem setMap {c : Cf} (hok : Ok P c) {t : Nat} {els els' : List (List DV)} {ty : TypeId} (hg : c.σ.get t = some ⟨els, ty, none⟩) (hlt : ty < 1000000000) {kt et : TypeId} {es es' : Array MapEntry} {clock clock' : Nat} (hu : P.underlying ty = some (.map kt et))
    (hb : c.w.heap[(c.μ t).blk]? = some (.map es clock)) (hz : ¬ c.Z (c.μ t).blk) (hs : es'.size = els'.length) (hst : MapKept.Stamped es' clock') (hkk : ∀ e ∈ es'.toList, ∃ l, keyOf P kt e.key = some l)
    (hv : ∀ (i : Nat) (el : List DV) (e : MapEntry), els'[i]? = some el → es'[i]? = some e → ∃ k v, el = [k, v, .sc (.int .i64 e.born)] ∧ V c k e.key ∧ V c v e.val) :
    ∃ c', c'.σ = c.σ.set t ⟨els', ty, none⟩ ∧ c'.w = { c.w with heap := c.w.heap.setIfInBounds (c.μ t).blk (.map es' clock') } ∧ Ok P c' ∧ Ev c c' := by
  have hset := MapKept.heap_set (o' := .map es' clock') hb
  obtain ⟨h1, h2⟩ := updG hok hg (o' := ⟨els', ty, none⟩) (by simp) (by simp) (loc' := c.μ t) (w' := { c.w with heap := c.w.heap.setIfInBounds (c.μ t).blk (.map es' clock') }) hz ⟨rfl, rfl, rfl, by simp, fun i _ hi => hset.2 i (fun e => hi (by rw [e]))⟩ (.inl rfl) (.inr ⟨rfl, rfl⟩) (by
    rintro c' rfl hev hZ
    refine nrow_obj rfl (.inl ⟨ty, kt, et, es', clock', .inl rfl, hlt, hu, by simpa using hset.1, by simpa using hz, hs, hst, hkk, fun i el e hi hj => ?_⟩)
    obtain ⟨k, v, r1, r2, r3⟩ := hv i el e hi hj
    exact ⟨k, v, r1, r2.ev hev, r3.ev hev⟩)
  exact ⟨_, rfl, rfl, h1, h2⟩

theorem AOp.mapUpdate_miss (hT : TOk P T) {ty kt et : TypeId} {s1 b1 : Nat} {z1 : List Value} {x ix y : Operand} {t : Nat} {kd vd : DV} {els : List (List DV)} {v0 : Value} {l0 : Lit}
    (ho : o.op = .mapUpdate ty x ix y) (hty : T ty = some ⟨.map kt et, s1, b1, z1⟩) (hlt : ty < 1000000000) (KT : Maps.Keyed P kt) (hx : Cm.eval ts x = some (.mp t)) (hix : Cm.eval ts ix = some kd) (hy : Cm.eval ts y = some vd) (hg : σ.get t = some ⟨els, ty, none⟩) (hk : kval kd = some v0) (hl : keyOf P kt v0 = some l0)
    (hne : ∀ el ∈ els, ∃ k' v' r, el = k' :: r ∧ kval k' = some v' ∧ v' ≠ v0) (hK : ∀ s : Nat, K (.tup []) (σ.set t ⟨els ++ [[kd, vd, .sc (.int .i64 s)]], ty, none⟩)) : AOp P o ts σ K := by
  refine AOp.runU (fun c hc hσ a hTR => ?_)
  subst hσ
  have hu : P.underlying ty = some (.map kt et) := (hT _ _ hty).desc
  have e1 := mp_V (hTR.eval hx) hg rfl
  have e2 := kval_V (hTR.eval hix) hk
  obtain ⟨_, kt', et', es, clock, hu', hb, hzz, hs, hst, hkk, hv⟩ := mapOk hc hg hlt
  rw [hu] at hu'; cases hu'
  replace hs : es.size = els.length := hs
  obtain ⟨hall, hrun⟩ := find_miss KT hkk hs hv hl hne c.w
  have hvk := hTR.eval hix
  have hvv := hTR.eval hy
  rw [e2] at hvk
  obtain ⟨c', hσ', hw', h1, h2⟩ := setMap hc hg hlt hu hb hzz (es' := es.push { key := v0, val := a.eval y, born := clock }) (clock' := clock + 1) (els' := els ++ [[kd, vd, .sc (.int .i64 clock)]]) (by simp [hs]) (MapKept.stamped_push hst hall)
    (fun e he => by
      rw [Array.toList_push] at he
      rcases List.mem_append.1 he with he | he
      · exact hkk e he
      · simp at he; subst he; exact ⟨_, hl⟩)
    (fun i el e hi hj => by
      rw [Array.getElem?_push] at hj
      split at hj
      · rename_i hi'
        cases hj
        rw [List.getElem?_append_right (by omega), hi', hs, Nat.sub_self] at hi
        simp at hi; subst hi
        exact ⟨kd, vd, rfl, hvk, hvv⟩
      · rename_i hi'
        have hlt2 := (Array.getElem?_eq_some_iff.1 hj).1
        rw [List.getElem?_append_left (by omega)] at hi
        exact hv i el e hi hj)
  refine ⟨c', ?_, h1, h2, by rw [hσ']; exact hK clock⟩
  rw [hw']
  have hx2 : (Instr.mapUpdate ty (a.eval x) (a.eval ix) (a.eval y)).run P c.w = .ok () { c.w with heap := c.w.heap.setIfInBounds (c.μ t).blk (.map (es.push { key := v0, val := a.eval y, born := clock }) (clock + 1)) } := by
    rw [e1, e2]
    simp [Instr.mapUpdate, run_underlying hu, MapKept.run_getObj_map hb, KT.check c.w _ hl, hrun, MapKept.run_setObj_map _ hb, Result.andThen]
  simp [execOp, ho, hx2, Result.andThen, undef]

theorem AOp.mapUpdate_hit (hT : TOk P T) {ty kt et : TypeId} {s1 b1 : Nat} {z1 : List Value} {x ix y : Operand} {t : Nat} {kd vd : DV} {els : List (List DV)} {v0 : Value} {l0 : Lit} {i : Nat} {k' vo sd : DV}
    (ho : o.op = .mapUpdate ty x ix y) (hty : T ty = some ⟨.map kt et, s1, b1, z1⟩) (hlt : ty < 1000000000) (KT : Maps.Keyed P kt) (hx : Cm.eval ts x = some (.mp t)) (hix : Cm.eval ts ix = some kd) (hy : Cm.eval ts y = some vd) (hg : σ.get t = some ⟨els, ty, none⟩) (hk : kval kd = some v0) (hl : keyOf P kt v0 = some l0)
    (hel : els[i]? = some [k', vo, sd]) (hk' : kval k' = some v0) (hK : K (.tup []) (σ.set t ⟨els.set i [k', vd, sd], ty, none⟩)) : AOp P o ts σ K := by
  refine AOp.runU (fun c hc hσ a hTR => ?_)
  subst hσ
  have hu : P.underlying ty = some (.map kt et) := (hT _ _ hty).desc
  have e1 := mp_V (hTR.eval hx) hg rfl
  have e2 := kval_V (hTR.eval hix) hk
  obtain ⟨_, kt', et', es, clock, hu', hb, hzz, hs, hst, hkk, hv⟩ := mapOk hc hg hlt
  rw [hu] at hu'; cases hu'
  replace hs : es.size = els.length := hs
  obtain ⟨e, he, hkey, hsd, hvk, hvo, hrun⟩ := find_hit KT hst hkk hs hv hl hel hk' c.w
  have hvv := hTR.eval hy
  have hi : i < es.size := (Array.getElem?_eq_some_iff.1 he).1
  have hmod : ∀ (j : Nat), (es.modify i fun e => { e with key := v0, val := a.eval y })[j]? = if i = j then some { e with key := v0, val := a.eval y } else es[j]? := fun j => by
    rw [Array.getElem?_modify]
    split
    · rename_i h; subst h; rw [he]; rfl
    · rfl
  obtain ⟨c', hσ', hw', h1, h2⟩ := setMap hc hg hlt hu hb hzz (es' := es.modify i fun e => { e with key := v0, val := a.eval y }) (clock' := clock) (els' := els.set i [k', vd, sd]) (by simp [hs])
    (MapKept.stamped_modify hst i _ (fun _ _ => rfl) (fun x hx hxi => by rw [he] at hxi; cases hxi; exact hkey.symm))
    (fun x hx => by
      obtain ⟨j, hj⟩ := List.mem_iff_getElem?.1 hx
      rw [Array.getElem?_toList, hmod] at hj
      split at hj
      · cases hj; exact ⟨_, hl⟩
      · exact hkk x (by rw [← Array.getElem?_toList] at hj; exact List.mem_of_getElem? hj))
    (fun j el x hj hx => by
      rw [hmod] at hx
      rw [List.getElem?_set] at hj
      split at hj
      · rename_i h; subst h
        rw [if_pos rfl] at hx
        split at hj
        · cases hj; cases hx
          exact ⟨k', vd, by rw [hsd], by rw [hkey] at hvk; exact hvk, hvv⟩
        · cases hj
      · rename_i h
        rw [if_neg h] at hx
        exact hv j el x hj hx)
  refine ⟨c', ?_, h1, h2, by rw [hσ']; exact hK⟩
  rw [hw']
  have hst2 := KT.stays c.w hl
  have hx2 : (Instr.mapUpdate ty (a.eval x) (a.eval ix) (a.eval y)).run P c.w = .ok () { c.w with heap := c.w.heap.setIfInBounds (c.μ t).blk (.map (es.modify i fun e => { e with key := v0, val := a.eval y }) clock) } := by
    rw [e1, e2]
    simp [Instr.mapUpdate, run_underlying hu, MapKept.run_getObj_map hb, KT.check c.w _ hl, hrun, he, hkey, hst2, MapKept.run_setObj_map _ hb, Result.andThen]
  simp [execOp, ho, hx2, Result.andThen, undef]

theorem AOp.delete_hit (hT : TOk P T) {ty kt et : TypeId} {s1 b1 : Nat} {z1 : List Value} {x ix : Operand} {t : Nat} {kd : DV} {els : List (List DV)} {v0 : Value} {l0 : Lit} {i : Nat} {k' vo sd : DV}
    (ho : o.op = .call { callee := .builtin .delete, args := #[x, ix], argTypes := #[ty, kt] }) (hty : T ty = some ⟨.map kt et, s1, b1, z1⟩) (hlt : ty < 1000000000) (KT : Maps.Keyed P kt) (hx : Cm.eval ts x = some (.mp t)) (hix : Cm.eval ts ix = some kd) (hg : σ.get t = some ⟨els, ty, none⟩) (hk : kval kd = some v0) (hl : keyOf P kt v0 = some l0)
    (hel : els[i]? = some [k', vo, sd]) (hk' : kval k' = some v0) (hK : K (.tup []) (σ.set t ⟨els.eraseIdx i, ty, none⟩)) : AOp P o ts σ K := by
  refine AOp.run (fun c hc hσ a hTR => ?_)
  subst hσ
  have hu : P.underlying ty = some (.map kt et) := (hT _ _ hty).desc
  have e1 := mp_V (hTR.eval hx) hg rfl
  have e2 := kval_V (hTR.eval hix) hk
  obtain ⟨_, kt', et', es, clock, hu', hb, hzz, hs, hst, hkk, hv⟩ := mapOk hc hg hlt
  rw [hu] at hu'; cases hu'
  replace hs : es.size = els.length := hs
  obtain ⟨e, he, hkey, hsd, hvk, hvo, hrun⟩ := find_hit KT hst hkk hs hv hl hel hk' c.w
  have hi : i < es.size := (Array.getElem?_eq_some_iff.1 he).1
  have hsub : (es.eraseIdxIfInBounds i).toList = es.toList.eraseIdx i := by
    unfold Array.eraseIdxIfInBounds
    rw [dif_pos hi]; simp
  obtain ⟨c', hσ', hw', h1, h2⟩ := setMap hc hg hlt hu hb hzz (es' := es.eraseIdxIfInBounds i) (clock' := clock) (els' := els.eraseIdx i)
    (by rw [← Array.length_toList, hsub, List.length_eraseIdx, List.length_eraseIdx, Array.length_toList, hs])
    (MapKept.stamped_erase hst i)
    (fun x hx => by rw [hsub] at hx; exact hkk x ((List.eraseIdx_sublist _ _).subset hx))
    (fun j el x hj hx => by
      rw [← Array.getElem?_toList, hsub, List.getElem?_eraseIdx] at hx
      rw [List.getElem?_eraseIdx] at hj
      split at hx
      · rename_i h; rw [if_pos h] at hj; exact hv j el x hj (by rw [← Array.getElem?_toList]; exact hx)
      · rename_i h; rw [if_neg h] at hj; exact hv (j + 1) el x hj (by rw [← Array.getElem?_toList]; exact hx))
  refine ⟨.tuple #[], .tup [], c', ?_, h1, h2, V.tup (l := []) (us := []) rfl (by simp), by rw [hσ']; exact hK⟩
  rw [hw']
  simp [execOp, ho, resolve, invoke, builtin, e1, e2, Builtin.delete_, run_underlying hu, MapKept.run_getObj_map hb, KT.check c.w _ hl, hrun, MapKept.run_setObj_map _ hb, Result.andThen]
theorem AOp.delete_miss (hT : TOk P T) {ty kt et : TypeId} {s1 b1 : Nat} {z1 : List Value} {x ix : Operand} {t : Nat} {kd : DV} {els : List (List DV)} {v0 : Value} {l0 : Lit}
    (ho : o.op = .call { callee := .builtin .delete, args := #[x, ix], argTypes := #[ty, kt] }) (hty : T ty = some ⟨.map kt et, s1, b1, z1⟩) (hlt : ty < 1000000000) (KT : Maps.Keyed P kt) (hx : Cm.eval ts x = some (.mp t)) (hix : Cm.eval ts ix = some kd) (hg : σ.get t = some ⟨els, ty, none⟩) (hk : kval kd = some v0) (hl : keyOf P kt v0 = some l0)
    (hne : ∀ el ∈ els, ∃ k' v' r, el = k' :: r ∧ kval k' = some v' ∧ v' ≠ v0) (hK : K (.tup []) (σ.set t ⟨els, ty, none⟩)) : AOp P o ts σ K := by
  refine AOp.run (fun c hc hσ a hTR => ?_)
  subst hσ
  have hu : P.underlying ty = some (.map kt et) := (hT _ _ hty).desc
  have e1 := mp_V (hTR.eval hx) hg rfl
  have e2 := kval_V (hTR.eval hix) hk
  obtain ⟨_, kt', et', es, clock, hu', hb, hzz, hs, hst, hkk, hv⟩ := mapOk hc hg hlt
  rw [hu] at hu'; cases hu'
  replace hs : es.size = els.length := hs
  obtain ⟨hall, hrun⟩ := find_miss KT hkk hs hv hl hne c.w
  obtain ⟨c', hσ', hw', h1, h2⟩ := setMap hc hg hlt hu hb hzz (es' := es) (clock' := clock) (els' := els) hs hst hkk hv
  refine ⟨.tuple #[], .tup [], c', ?_, h1, h2, V.tup (l := []) (us := []) rfl (by simp), by rw [hσ']; exact hK⟩
  rw [hw']
  simp [execOp, ho, resolve, invoke, builtin, e1, e2, Builtin.delete_, run_underlying hu, MapKept.run_getObj_map hb, KT.check c.w _ hl, hrun, MapKept.run_setObj_map _ hb, Result.andThen]
theorem AOp.lenMap (hT : TOk P T) {ty kt et : TypeId} {s1 b1 : Nat} {z1 : List Value} {x : Operand} {t : Nat} {els : List (List DV)}
    (ho : o.op = .call { callee := .builtin .len, args := #[x], argTypes := #[ty] }) (hty : T ty = some ⟨.map kt et, s1, b1, z1⟩) (hlt : ty < 1000000000) (hx : Cm.eval ts x = some (.mp t)) (hg : σ.get t = some ⟨els, ty, none⟩) (hK : K (.sc (.int .i64 els.length)) σ) : AOp P o ts σ K := by
  refine AOp.val (fun c hc hσ a hTR => ?_) hK
  subst hσ
  have hu : P.underlying ty = some (.map kt et) := (hT _ _ hty).desc
  have e1 := mp_V (hTR.eval hx) hg rfl
  obtain ⟨_, kt', et', es, clock, hu', hb, hzz, hs, hst, hkk, hv⟩ := mapOk hc hg hlt
  refine ⟨.int .i64 els.length, ?_, .sc rfl⟩
  simp [execOp, ho, resolve, invoke, builtin, e1, Builtin.len_, run_underlying hu, MapKept.run_getObj_map hb, goInt, hs, Result.andThen]
end
end Go.Proofs.Ytcjlnaplkodgpaa.Cm
