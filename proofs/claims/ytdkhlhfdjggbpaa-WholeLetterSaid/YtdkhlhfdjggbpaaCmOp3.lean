import Derived.Test.YtdkhlhfdjggbpaaCmCall
set_option linter.unusedVariables false
set_option linter.unusedSimpArgs false
namespace Go.Proofs.Ytdkhlhfdjggbpaa.Cm
open Go.RowKit

section
variable {P : Program} {T : Tab} {o : Oper} {ts : List DV} {σ : Heap} {K : DV → Heap → Prop}

/-- A new block that is written no more. -/
theorem wall {c : Cf} (hok : Ok P c) {w' : World} {b : Nat} (hg : c.w.grownBy w' none) (hb : c.w.heap.size ≤ b) (hlt : b < w'.heap.size) :
    Ok P { c with Z := fun k => c.Z k ∨ k = b, w := w' } ∧ Ev c { c with Z := fun k => c.Z k ∨ k = b, w := w' } := by
  have hev : Ev c { c with Z := fun k => c.Z k ∨ k = b, w := w' } :=
    ⟨Nat.le_refl _, fun _ _ => Nat.le_refl _, fun _ _ _ _ _ h => h, fun _ h => .inl h, fun k hk => hg.block k (hok.zlt k hk) (by simp), hg.size, hg.os, hg.tape, hg.output⟩
  refine ⟨⟨fun s os hs => ?_, hok.inj, fun k hk => ?_⟩, hev⟩
  · have hlt1 := (hok.obj s os hs).lt
    refine (hok.obj s os hs).keep hev rfl (hg.block _ hlt1 (by simp)) (fun _ h => ?_)
    rintro (h2 | h2)
    · exact h h2
    · omega
  · rcases hk with hk | rfl
    · exact Nat.lt_of_lt_of_le (hok.zlt k hk) hg.size
    · exact hlt

/-- A struct's literal. -/
def structPlaces (T : Tab) : List (Nat × TypeId) → Nat → Option (Nat × Nat)
  | [], _ => none
  | (off, ft) :: r, 0 => (T ft).map fun fi => (off, fi.size)
  | _ :: r, i + 1 => structPlaces T r i
def allTyped (T : Tab) (fs : List (Nat × TypeId)) : Bool := fs.all fun f => (T f.2).isSome
def buildD (T : Tab) (ty : TypeId) (ps : List (Nat × DV)) : Option DV :=
  match T ty with
  | some ⟨.struct fs _, _, _, ze⟩ => if allTyped T fs = true then (fillD (structPlaces T fs) (ze.map .sc) ps).map .agg else none
  | some ⟨.array _ e _, _, _, ze⟩ => match T e with
    | some ei => (fillD (fun i => some (i * ei.size, ei.size)) (ze.map .sc) ps).map .agg
    | none => none
  | _ => none
theorem places_run (hT : TOk P T) (w : World) : ∀ (F : List Field), (∀ f ∈ F, (T f.type).isSome = true) →
    ∃ pl : List (Nat × Nat), (F.mapM fun f => do pure (f.offset, ← Go.sizeOf f.type) : Sem (List (Nat × Nat))).run P w = .ok pl w ∧ ∀ i, structPlaces T (F.map fun f => (f.offset, f.type)) i = pl[i]?
  | [], _ => ⟨[], by simp, fun i => by simp [structPlaces]⟩
  | f :: F, h => by
    obtain ⟨fi, hfi⟩ := Option.isSome_iff_exists.1 (h f List.mem_cons_self)
    obtain ⟨pl, h1, h2⟩ := places_run hT w F (fun g hg => h g (List.mem_cons_of_mem _ hg))
    refine ⟨(f.offset, fi.size) :: pl, by simp only [List.mapM_cons, Sem.run_bind, (hT _ _ hfi).sizeOf, Result.andThen_ok, Sem.run_pure, h1], fun i => ?_⟩
    cases i with
    | zero => simp [structPlaces, hfi]
    | succ i => simpa [structPlaces] using h2 i

theorem AOp.build (hT : TOk P T) {ty : TypeId} {ps : Array (Nat × Operand)} {ds : List (Nat × DV)} {y : DV} (ho : o.op = .build ty ps) (hps : evalParts ts ps.toList = some ds) (hr : buildD T ty ds = some y) (hK : K y σ) : AOp P o ts σ K := by
  refine AOp.val (fun c hc hσ a hTR => ?_) hK
  subst hσ
  obtain ⟨hm, hv⟩ := evalParts_V hTR hps
  have hpe : (ps.map fun x => (x.1, a.eval x.2)).toList = ps.toList.map fun p => (p.1, a.eval p.2) := by simp
  have fin : ∀ (place : Nat → Option (Nat × Nat)) (ze : List Value) (z : Value) (l : List DV), z.cells.toList = ze → ze.all plain = true → fillD place (ze.map .sc) ds = some l → ∃ cs : Array Value, Instr.fill place z.cells (ps.map fun x => (x.1, a.eval x.2)).toList = some cs ∧ V c (.agg l) (.agg cs) := fun place ze z l hz hp hl => by
    obtain ⟨cs, h1, h2⟩ := fill_run (c := c) (cs := z.cells) (vs := ps.toList.map fun p => (p.1, a.eval p.2)) hl (by rw [hz]; exact FR.plain hp) hm hv
    refine ⟨cs, by rw [hpe]; exact h1, ?_⟩
    have := V.agg (c := c) (l := l) (us := cs.toList) h2.len h2.v
    simpa using this
  unfold buildD at hr
  split at hr
  · rename_i fs c1 sz by_ ze hty
    have ht := hT _ _ hty
    obtain ⟨F, hF, hFs⟩ := ht.desc
    split at hr
    · rename_i hall
      obtain ⟨l, hl, rfl⟩ := Option.map_eq_some_iff.1 hr
      obtain ⟨z, hz, hzc⟩ := ht.zeroV c.w
      obtain ⟨pl, h1, h2⟩ := places_run hT c.w F.toList (fun f hf => by
        have := List.all_eq_true.1 hall (f.offset, f.type) (by rw [← hFs]; exact List.mem_map_of_mem hf)
        exact this)
      rw [hFs] at h2
      obtain ⟨cs, h3, h4⟩ := fin (structPlaces T fs) ze z l hzc ht.plain hl
      have hpl : (fun i => structPlaces T fs i) = fun i => (pl.toArray)[i]? := by funext i; rw [h2 i]; simp
      refine ⟨.agg cs, ?_, h4⟩
      have hmm : (F.mapM fun f => do pure (f.offset, ← Go.sizeOf f.type) : Sem (Array (Nat × Nat))).run P c.w = .ok pl.toArray c.w := by
        rw [Array.mapM_eq_mapM_toList, map_eq_pure_bind, Sem.run_bind, h1]; rfl
      have h3' : Instr.fill (fun i => (pl.toArray)[i]?) z.cells (ps.map fun x => (x.1, a.eval x.2)).toList = some cs := by rw [← hpl]; exact h3
      simp only [execOp, ho]
      rw [Sem.run_bind]
      have hb : (Instr.build ty (ps.map fun x => (x.1, a.eval x.2))).run P c.w = .ok (.agg cs) c.w := by
        unfold Instr.build
        simp only [Sem.run_bind, hz, Result.andThen_ok, run_underlying hF, hmm]
        rw [h3']
        rfl
      rw [hb]; rfl
    · cases hr
  · rename_i n e c1 sz by_ ze hty
    have ht := hT _ _ hty
    have hd := ht.desc
    simp only [descOk] at hd
    split at hr
    · rename_i ei hei
      obtain ⟨l, hl, rfl⟩ := Option.map_eq_some_iff.1 hr
      obtain ⟨z, hz, hzc⟩ := ht.zeroV c.w
      obtain ⟨cs, h3, h4⟩ := fin _ ze z l hzc ht.plain hl
      refine ⟨.agg cs, ?_, h4⟩
      simp only [execOp, ho]
      rw [Sem.run_bind]
      have hb : (Instr.build ty (ps.map fun x => (x.1, a.eval x.2))).run P c.w = .ok (.agg cs) c.w := by
        unfold Instr.build
        simp only [Sem.run_bind, hz, Result.andThen_ok, run_underlying hd, (hT _ _ hei).sizeOf]
        rw [h3]
        rfl
      rw [hb]; rfl
    · cases hr
  · cases hr

theorem AOp.nilCheck {x : Operand} {t i j m : Nat} (ho : o.op = .nilCheck x) (hx : Cm.eval ts x = some (.ptr t i j m)) (hK : K (.ptr t i j m) σ) : AOp P o ts σ K := by
  refine AOp.val (fun c hc hσ a hTR => ?_) hK
  have hv := hTR.eval hx
  generalize hax : a.eval x = ax at hv
  have hv' := hv
  cases hv with
  | ptr ht hm h => exact ⟨_, by simp [execOp, ho, hax], hv'⟩
theorem AOp.nilCheck_ip {x : Operand} {l : List DV} (ho : o.op = .nilCheck x) (hx : Cm.eval ts x = some (.ip l)) (hK : K (.ip l) σ) : AOp P o ts σ K := by
  refine AOp.val (fun c hc hσ a hTR => ?_) hK
  have hv := hTR.eval hx
  generalize hax : a.eval x = ax at hv
  have hv' := hv
  cases hv with
  | ip => exact ⟨_, by simp [execOp, ho, hax], hv'⟩

theorem AOp.nilCheck_ifc {x : Operand} {ty : TypeId} {d : DV} (ho : o.op = .nilCheck x) (hx : Cm.eval ts x = some (.ifc ty d)) (hK : K (.ifc ty d) σ) : AOp P o ts σ K := by
  refine AOp.val (fun c hc hσ a hTR => ?_) hK
  have hv := hTR.eval hx
  generalize hax : a.eval x = ax at hv
  have hv' := hv
  cases hv with
  | ifc => exact ⟨_, by simp [execOp, ho, hax], hv'⟩

/-- An element of a string, of an array's value. -/
def indexD (T : Tab) (ty : TypeId) (x : DV) (i : Int) : Option DV :=
  match T ty with
  | some ⟨.string, _, _, _⟩ => (match x with
    | .sc (.string s) => if 0 ≤ i then (match s[i.toNat]? with | some b => some (.sc (.int .u8 b.toNat)) | none => none) else none
    | _ => none)
  | some ⟨.array n e _, _, _, _⟩ => (match x, T e with
    | .agg l, some ei => if 0 ≤ i ∧ i < n then partD T e l (i.toNat * ei.size) else none
    | _, _ => none)
  | _ => none
theorem AOp.index (hT : TOk P T) {ty : TypeId} {x ix : Operand} {d y : DV} {k : IntKind} {i : Int} (ho : o.op = .index ty x ix) (hx : Cm.eval ts x = some d) (hix : Cm.eval ts ix = some (.sc (.int k i))) (hf : indexD T ty d i = some y) (hK : K y σ) : AOp P o ts σ K := by
  refine AOp.val (fun c hc hσ a hTR => ?_) hK
  subst hσ
  have hv := hTR.eval hx
  obtain ⟨hi, _⟩ := (hTR.eval hix).plain_inv
  unfold indexD at hf
  split at hf
  · rename_i sz by_ ze hty
    have hd := (hT _ _ hty).desc
    simp only [descOk] at hd
    split at hf
    · rename_i s
      obtain ⟨hs, _⟩ := hv.plain_inv
      split at hf
      · rename_i h0
        split at hf
        · rename_i b hb
          cases hf
          refine ⟨_, ?_, .sc rfl⟩
          simp [execOp, ho, hs, hi, Instr.index, asIntOf, run_underlying hd, h0, hb]
        · cases hf
      · cases hf
    · cases hf
  · rename_i n e c1 sz by_ ze hty
    have hd := (hT _ _ hty).desc
    simp only [descOk] at hd
    split at hf
    · rename_i l ei hei
      split at hf
      · rename_i hbd
        generalize hax : a.eval x = ax at hv
        cases hv with
        | agg hl hv =>
          obtain ⟨u, hr, hu⟩ := part_run hT hl hv hf
          exact ⟨u, by simp [execOp, ho, hax, hi, Instr.index, asIntOf, run_underlying hd, hbd.1, hbd.2, (hT _ _ hei).sizeOf, hr], hu⟩
      · cases hf
    · cases hf
  · cases hf

/-- Bytes of told cells. -/
def unbyte : List DV → Option Int
  | [.sc (.int .u8 n)] => some n
  | _ => none
theorem unbyte_eq {el : List DV} {n : Int} (h : unbyte el = some n) : el = [.sc (.int .u8 n)] := by
  unfold unbyte at h
  split at h
  · cases h; rfl
  · cases h
def unbytes : List (List DV) → Option (List Int)
  | [] => some []
  | el :: r => match unbyte el, unbytes r with | some n, some l => some (n :: l) | _, _ => none
theorem unbytes_eq : ∀ {els : List (List DV)} {l : List Int}, unbytes els = some l → els = bytesD l
  | [], l, h => by cases h; rfl
  | el :: r, l, h => by
    simp only [unbytes] at h
    cases h1 : unbyte el with
    | none => rw [h1] at h; simp at h
    | some n =>
      cases h2 : unbytes r with
      | none => rw [h1, h2] at h; simp at h
      | some m =>
        rw [h1, h2] at h
        cases h
        rw [unbyte_eq h1, unbytes_eq h2]; rfl
@[simp] theorem unbytes_bytesD (l : List Int) : unbytes (bytesD l) = some l := by
  induction l with
  | nil => rfl
  | cons n l ih =>
    have : bytesD (n :: l) = [.sc (.int .u8 n)] :: bytesD l := rfl
    rw [this, unbytes, ih]; rfl

theorem AOp.ofString (hT : TOk P T) {src dst e : TypeId} {x : Operand} {s : ByteArray} {s1 s2 s3 b1 b2 b3 : Nat} {z1 z2 z3 : List Value} (ho : o.op = .convert src dst x) (hx : Cm.eval ts x = some (.sc (.string s))) (hs : T src = some ⟨.string, s1, b1, z1⟩) (hd : T dst = some ⟨.slice e, s2, b2, z2⟩) (he : T e = some ⟨.int .u8, s3, b3, z3⟩)
    (hsz : s.size ≤ maxLen) (hK : K (.imm (bytesD (s.data.toList.map fun b => (b.toNat : Int)))) σ) : AOp P o ts σ K := by
  refine AOp.run (fun c hc hσ a hTR => ?_)
  obtain ⟨hv, _⟩ := (hTR.eval hx).plain_inv
  have h1 := (hT _ _ hs).desc
  have h2 := (hT _ _ hd).desc
  have h3 := (hT _ _ he).desc
  simp only [descOk] at h1 h2 h3
  subst hσ
  have hr := Lib.run_convert_string_bytes (P := P) c.w src dst e s h1 h2 h3
  have hge := grownCap_ge c.w s.size 0 e
  have hcm := grownCap_le_maxLen c.w s.size 0 e hsz
  obtain ⟨k1, k2⟩ := wall hc (w' := Lib.bytesWorld c.w e s) (b := c.w.heap.size) ⟨rfl, rfl, rfl, by rw [Lib.bytesWorld_size]; omega, fun k hk _ => Lib.bytesWorld_at_old c.w e s k hk⟩ (Nat.le_refl _) (by rw [Lib.bytesWorld_size]; omega)
  refine ⟨.slice (some ⟨c.w.heap.size, 0, none⟩) s.size (grownCap c.w s.size 0 e), .imm (bytesD (s.data.toList.map fun b => (b.toNat : Int))), _, ?_, k1, k2, ?_, hK⟩
  · simp only [execOp, ho, hv]
    rw [Sem.run_bind, hr]; rfl
  · have hdz : s.data.toList.length = s.size := Array.length_toList
    have hln : (bytesD (s.data.toList.map fun b => (b.toNat : Int))).length = s.size := by rw [bytesD_length, List.length_map, hdz]
    have key : V { c with Z := fun k => c.Z k ∨ k = c.w.heap.size, w := Lib.bytesWorld c.w e s } (.imm (bytesD (s.data.toList.map fun b => (b.toNat : Int)))) (.slice (some ⟨c.w.heap.size, 0, none⟩) (bytesD (s.data.toList.map fun b => (b.toNat : Int))).length (grownCap c.w s.size 0 e)) := by
      refine .imm (sz := 1) (us := (s.data.toList.map fun b => Value.int .u8 (b.toNat : Int))) (by rw [hln]; exact hge) hcm (bytesD_size _) (by rw [hln, List.length_map, hdz, Nat.mul_one]) (fun _ => ⟨_, rfl, rfl, .inr rfl, fun j u hu => ?_⟩) (fun e => by cases e) (fun u hu => ?_) (fun i j el x u hi hj hu => ?_)
      · have hj : j < s.size := by have := (List.getElem?_eq_some_iff.1 hu).1; rw [List.length_map, hdz] at this; exact this
        rw [cell_lit (w := c.w) rfl]
        have := Lib.bytesWorld_cell c.w e s j hj
        simp only [Nat.zero_add]
        rw [this]
        have hj2 : j < s.data.toList.length := by rw [hdz]; exact hj
        rw [List.getElem?_map, List.getElem?_eq_getElem hj2] at hu
        simp only [Option.map_some, Option.some.injEq] at hu
        rw [← hu]
        simp [List.getD, List.getElem?_eq_getElem hj2]
      · simp only [List.mem_map] at hu
        obtain ⟨b, _, rfl⟩ := hu; rfl
      · simp only [bytesD, List.getElem?_map] at hi
        obtain ⟨n, hn, rfl⟩ := Option.map_eq_some_iff.1 hi
        obtain ⟨b, hb, rfl⟩ := Option.map_eq_some_iff.1 hn
        cases j with
        | zero =>
          simp at hj; subst hj
          rw [Nat.mul_one, Nat.add_zero, List.getElem?_map, hb] at hu
          simp at hu; subst hu
          exact .sc rfl
        | succ j => simp at hj
    rw [hln] at key
    exact key

/-- append onto a part of a row of its own: what stands behind that part is written over. -/
def appendP (T : Tab) (σ : Heap) (ty : TypeId) (s x : DV) : Option (DV × Heap) :=
  match T ty with
  | some ⟨.slice e, _, _, _⟩ => match T e, sliceD σ x with
    | some ei, some l => if 0 < ei.size ∧ (l.all fun el => el.length == ei.size) = true then (match s with
      | .sl t off len m => if l.length = 0 then some (.sl t off len m, σ) else match getO σ t m with
        | some o => if off = 0 ∧ len < m ∧ o.own = true ∧ o.e = e ∧ 0 < l.length ∧ (len + l.length) * (ei.bytes + 1) ≤ 140737488355328 then some (.sl t 0 (len + l.length) (len + l.length + (m - (len + l.length))), σ.set t { o with els := o.els.take len ++ l ++ o.els.drop (len + l.length) }) else none
        | none => none
      | _ => none) else none
    | _, _ => none
  | _ => none

theorem prefix_get {α : Type} {X Y Z : List α} {q k : Nat} {u : α} (h : (X ++ Y ++ Z.take q)[k]? = some u) : (X ++ Y ++ Z)[k]? = some u := by
  by_cases hk : k < (X ++ Y).length
  · rw [List.getElem?_append_left hk] at h ⊢; exact h
  · rw [List.getElem?_append_right (by omega)] at h ⊢
    rw [List.getElem?_take] at h
    split at h
    · exact h
    · cases h

theorem AOp.appendP (hT : TOk P T) {ty : TypeId} {s x : Operand} {d e : DV} {r : DV × Heap} (ho : o.op = .call { callee := .builtin .append, args := #[s, x], argTypes := #[ty, ty] })
    (hs : Cm.eval ts s = some d) (hx : Cm.eval ts x = some e) (hf : Cm.appendP T σ ty d e = some r) (hK : K r.1 r.2) : AOp P o ts σ K := by
  refine AOp.run (fun c hc hσ a hTR => ?_)
  subst hσ
  have hvs := hTR.eval hs
  have hvx := hTR.eval hx
  unfold Cm.appendP at hf
  split at hf
  · rename_i te sz0 by0 ze0 hty
    have hty := (hT _ _ hty).desc
    simp only [descOk] at hty
    split at hf
    · rename_i ei l hei hsl
      have ht := hT _ _ hei
      obtain ⟨i, z, hi, hisz, hiby, hiz, hzc⟩ := ht.info
      split at hf
      · rename_i hcond
        obtain ⟨hp, hall⟩ := hcond
        have hall : ∀ el ∈ l, el.length = ei.size := fun el hel => by simpa using List.all_eq_true.1 hall el hel
        obtain ⟨A, cp, us, hxe, hlc, hcm, hul, hcells, hAn, hfr⟩ := slice_reads hc hvx hsl hall
        have hz1 : ∀ n, ∀ u ∈ (Builtin.zeroCells z.cells n).toList, u.oneCell' = true := fun n u hu => by
          have := mem_zeroCells hu
          rw [hzc] at this
          exact plain_oneCell (List.all_eq_true.1 ht.plain u this)
        have hexec : ∀ (v1 : Value) v' w', a.eval s = v1 → (Builtin.append_ #[ty, ty] o.type #[v1, a.eval x]).run P c.w = .ok v' w' → (execOp a.eval o).run P c.w = .ok (.value v') w' := fun v1 v' w' h1 h2 => by
          subst h1
          simp only [execOp, ho, resolve, invoke, builtin, Sem.run_bind, Sem.run_pure, Result.andThen_ok, List.map_toArray, List.map_cons, List.map_nil, h2]
        split at hf
        · rename_i t off len m
          split at hf
          · rename_i hl0
            cases hf
            have hl : l = [] := List.eq_nil_of_length_eq_zero hl0
            subst hl
            generalize hsv : a.eval s = sv at hvs
            have hvs' := hvs
            cases hvs with
            | sl ht2 hmm hcl h' =>
              rename_i ad0 cp0
              refine ⟨_, _, c, hexec _ _ _ hsv (?_ : _ = Result.ok (Value.slice (some ad0) len cp0) c.w), hc, Ev.refl c, hvs', hK⟩
              rw [hxe]
              cases A <;> simp [Builtin.append_, run_underlying hty, sizeOf, typeInfo, hi, Builtin.lenOf, Builtin.firstCells, loadCells, loadCellsFrom, hcl, storeCells]
          split at hf
          · rename_i ob hob0
            obtain ⟨hob, hm, hrw⟩ := getO_eq hob0
            clear hob0
            split at hf
            · rename_i hcond
              obtain ⟨rfl, hlm, hown, he, hl0', hby⟩ := hcond
              cases hf
              obtain ⟨cur, fr, hcur, hz, _, hcs, hcm1, hp1, hiz1, hle, h1c, hes, hcv⟩ := hc.row hob hrw
              obtain ⟨rfl, hZ⟩ := hz hown
              have hszz : (c.μ t).sz = ei.size := by
                have := ht.isize; rw [← he, hiz1] at this; exact Option.some.inj this
              have hG : c.G t m = some (c.μ t) := by rw [← hm]; exact Cf.G_of hob hrw
              generalize hsv : a.eval s = sv at hvs
              cases hvs with
              | sl ht2 hmm hcl h' =>
                rename_i ad0 cp0
                obtain ⟨ha0, hcap0⟩ : ad0 = ⟨(c.μ t).blk, 0, none⟩ ∧ cp0 = (c.μ t).cap := by
                  rcases h' _ hG with ⟨h2, h3⟩ | ⟨_, _, h4⟩
                  · exact ⟨by simpa using h2, by omega⟩
                  · exact absurd rfl h4
                subst ha0
                subst hcap0
                obtain ⟨hb1, hb2⟩ := bytes_small hby
                have hune : us ≠ [] := fun e => by rw [e] at hul; have := Nat.mul_pos hl0' hp; simp at hul; omega
                obtain ⟨ad, rfl, hsp, hcell⟩ := hcells hune
                have hfr0 := ObjOk.fr (P := P) hle hcs h1c hes hcv
                rw [hszz] at hfr0
                have hes' : ∀ el ∈ ob.els, el.length = ei.size := fun el hel => by rw [← hszz]; exact hes el hel
                have hfit : ob.els.length * ei.size ≤ cur.size := by rw [hcs, hszz]; exact Nat.mul_le_mul_right _ hle
                have hall2 : ∀ el ∈ ob.els.take len ++ l ++ ob.els.drop (len + l.length), el.length = ei.size := fun el hel => by
                  rw [List.append_assoc] at hel
                  rcases List.mem_append.1 hel with h | h
                  · exact hes' el (List.mem_of_mem_take h)
                  · rcases List.mem_append.1 h with h | h
                    · exact hall el h
                    · exact hes' el (List.mem_of_mem_drop h)
                have hn : ob.els.length = m := hm
                have hlen' : (ob.els.take len ++ l ++ ob.els.drop (len + l.length)).length = len + l.length + (m - (len + l.length)) := by simp; omega
                have hlsz : len * ei.size ≤ m * ei.size := Nat.mul_le_mul_right _ (by omega)
                have hfr2 := ((hfr0.take (len * ei.size)).append hfr).append (hfr0.drop ((len + l.length) * ei.size))
                rw [← flat_take hes', ← flat_drop hes', ← List.flatten_append, ← List.flatten_append] at hfr2
                have htk : (cur.toList.take (ob.els.length * ei.size)).take (len * ei.size) = cur.toList.take (len * ei.size) := by
                  rw [List.take_take, Nat.min_eq_left (by rw [hn]; exact hlsz)]
                have hdk : (cur.toList.take (ob.els.length * ei.size)).drop ((len + l.length) * ei.size) = (cur.toList.drop ((len + l.length) * ei.size)).take (ob.els.length * ei.size - (len + l.length) * ei.size) := List.drop_take
                rw [htk, hdk] at hfr2
                by_cases hroom : len + l.length ≤ (c.μ t).cap
                · have hfit2 : len * i.size + us.length ≤ cur.size := by rw [hul, hcs, hszz, hisz, ← Nat.add_mul]; exact Nat.mul_le_mul_right _ hroom
                  have hr := run_append_room (P := P) c.w ty o.type te i hty hi (c.μ t).blk len (c.μ t).cap cur (by rw [← he]; exact hcur) ad l.length cp us (by rw [hisz]; exact hul) hcell hfr.one hroom hfit2
                  rw [hisz] at hr hfit2
                  have hul2 : len * ei.size + us.length = (len + l.length) * ei.size := by rw [hul, Nat.add_mul]
                  obtain ⟨h1', h2'⟩ := upd hc hob hown (o' := { ob with els := ob.els.take len ++ l ++ ob.els.drop (len + l.length) }) hown rfl (loc' := c.μ t) (w' := c.w.setRow (c.μ t).blk (cur.toList.take (len * ei.size) ++ us ++ cur.toList.drop (len * ei.size + us.length)).toArray)
                    ⟨rfl, rfl, rfl, by simp, fun k _ hk => setRow_other c.w _ k _ (fun e => hk (by simp [e]))⟩ (.inl rfl) rfl (by
                      rw [hlen', hn]
                      by_cases h : len + l.length ≤ m
                      · exact .inr ⟨by omega, rfl⟩
                      · exact .inl (by omega)) (setRow_heap c.w _ cur _ ob.e _ hcur)
                    (by simp; rw [← hcs]; omega) hcm1 (by rw [hlen']; omega)
                    (fun u hu => by
                      simp at hu
                      rcases hu with hu | hu | hu
                      · exact h1c u (List.mem_of_mem_take hu)
                      · exact hfr.one u hu
                      · exact h1c u (List.mem_of_mem_drop hu))
                    (fun el hel => by rw [hszz]; exact hall2 el hel)
                    (fun i' j el x hi' hj => by
                      rw [hszz]
                      obtain ⟨u, hu, hv⟩ := hfr2.els hall2 i' j el x hi' hj
                      refine ⟨u, ?_, hv⟩
                      simp only [List.getElem?_toArray]
                      rw [hul2]
                      exact prefix_get hu)
                  refine ⟨_, _, _, hexec _ _ _ hsv (by rw [hxe]; exact hr), h1', h2', ?_, hK⟩
                  have htl := Heap.lt hob
                  refine .sl (by simpa using htl) (by simp [Cf.len, Heap.get_set htl, AObj.ln, hown]; omega) hroom (fun loc hg => .inl ?_)
                  simp only [Cf.G, Heap.get_set htl, AObj.ln, hown, if_true] at hg
                  split at hg <;> (cases hg <;> simp)
                · have hcell0 : ∀ j v, (cur.toList.take (len * i.size))[j]? = some v → c.w.cell? ((⟨(c.μ t).blk, 0, none⟩ : Addr).add j) = some v := fun j v hj => by
                    rw [List.getElem?_take] at hj
                    split at hj
                    · rw [cell_lit (w := c.w) rfl, cell_of_row c.w _ _ cur _ (0, 0) hcur]; simpa using hj
                    · cases hj
                  have hr := run_append_grow (P := P) c.w ty o.type te i z hty hi hiz ⟨(c.μ t).blk, 0, none⟩ len (c.μ t).cap (cur.toList.take (len * i.size)) (by rw [hisz]; simp; rw [hn] at hfit; omega) hcell0 ad l.length cp us (by rw [hisz]; exact hul) hcell (by omega)
                    (by simp only [maxLen] at hb1; omega) (growslice_fits (by omega) (by rw [hiby]; omega))
                  rw [hisz] at hr
                  have hge := grownCap_ge c.w (len + l.length) (c.μ t).cap te
                  have hcm2 := grownCap_le_maxLen c.w (len + l.length) (c.μ t).cap te hb1
                  have hzs : z.cells.size = ei.size := by rw [← Array.length_toList, hzc, ht.len]
                  have hcapm : m ≤ (c.μ t).cap := by rw [← hn]; exact hle
                  have hdrop : ob.els.drop (len + l.length) = [] := List.drop_eq_nil_of_le (by omega)
                  have hm0 : m - (len + l.length) = 0 := by omega
                  rw [hdrop, List.append_nil] at hfr2 hall2
                  obtain ⟨h1', h2'⟩ := upd hc hob hown (o' := { ob with els := ob.els.take len ++ l ++ ob.els.drop (len + l.length) }) hown rfl (loc' := ⟨c.w.heap.size, grownCap c.w (len + l.length) (c.μ t).cap te, ei.size⟩)
                    (w' := c.w.drew.alloc (.cells ((cur.toList.take (len * ei.size)).toArray ++ us.toArray ++ Builtin.zeroCells z.cells (grownCap c.w (len + l.length) (c.μ t).cap te - (len + l.length))) te))
                    ⟨rfl, rfl, rfl, by simp, fun k hk _ => (Below.heap_alloc c.w.drew _ k hk)⟩ (.inr (Nat.le_refl _)) hszz.symm (.inl (by rw [hlen']; omega)) (by rw [he]; exact heap_alloc_new c.w.drew _)
                    (by
                      rw [hn] at hfit
                      simp only [Array.size_append, List.size_toArray, size_zeroCells, hzs, hul, List.length_take, Array.length_toList, Nat.min_eq_left (Nat.le_trans hlsz hfit), ← Nat.add_mul]; congr 1; omega) hcm2 (by rw [hlen', hm0]; omega)
                    (fun u hu => by
                      simp only [Array.toList_append, List.mem_append] at hu
                      rcases hu with (hu | hu) | hu
                      · exact h1c u (List.mem_of_mem_take hu)
                      · exact hfr.one u hu
                      · exact hz1 _ u hu) (by rw [hdrop, List.append_nil]; exact hall2)
                    (fun i' j el x hi' hj => by
                      rw [hdrop, List.append_nil] at hi'
                      have hfr3 := (hfr0.take (len * ei.size)).append hfr
                      rw [htk, ← flat_take hes', ← List.flatten_append] at hfr3
                      obtain ⟨u, hu, hv⟩ := hfr3.els hall2 i' j el x hi' hj
                      refine ⟨u, ?_, hv⟩
                      have hlt := (List.getElem?_eq_some_iff.1 hu).1
                      rw [Array.getElem?_append_left (by simpa using hlt)]
                      have : ((cur.toList.take (len * ei.size)).toArray ++ us.toArray) = ((cur.toList.take (len * ei.size)) ++ us).toArray := by simp
                      rw [this]; simpa using hu)
                  refine ⟨_, _, _, hexec _ _ _ hsv (by rw [hxe]; exact hr), h1', h2', ?_, hK⟩
                  have htl := Heap.lt hob
                  refine .sl (by simpa using htl) (by simp [Cf.len, Heap.get_set htl, AObj.ln, hown]; omega) hge (fun loc hg => .inl ?_)
                  simp only [Cf.G, Heap.get_set htl, AObj.ln, hown, if_true] at hg
                  split at hg <;> (cases hg <;> simp)
            · cases hf
          · cases hf
        · cases hf
      · cases hf
    · cases hf
  · cases hf

/-- clear of a row of its own. -/
def clearD (T : Tab) (σ : Heap) (ty : TypeId) (x : DV) : Option Heap :=
  match T ty with
  | some ⟨.slice e, _, _, _⟩ => match T e with
    | some ei => (match x with
      | .sl t off len m => match getO σ t m with
        | some o => if o.own = true ∧ o.e = e ∧ off + len ≤ m ∧ 0 < len then some (σ.set t { o with els := o.els.take off ++ List.replicate len (ei.zero.map .sc) ++ o.els.drop (off + len) }) else none
        | none => none
      | _ => none)
    | none => none
  | _ => none
theorem AOp.clear (hT : TOk P T) {ty : TypeId} {x : Operand} {d : DV} {σ' : Heap} (ho : o.op = .call { callee := .builtin .clear, args := #[x], argTypes := #[ty] }) (hx : Cm.eval ts x = some d) (hf : clearD T σ ty d = some σ') (hK : K (.tup []) σ') : AOp P o ts σ K := by
  refine AOp.run (fun c hc hσ a hTR => ?_)
  subst hσ
  have hvx := hTR.eval hx
  unfold clearD at hf
  split at hf
  · rename_i e sz0 by0 ze0 hty
    have hty := (hT _ _ hty).desc
    simp only [descOk] at hty
    split at hf
    · rename_i ei hei
      have ht := hT _ _ hei
      split at hf
      · rename_i t off len m
        split at hf
        · rename_i ob hob0
          obtain ⟨hob, hm, hrw⟩ := getO_eq hob0
          clear hob0
          split at hf
          · rename_i hcond
            obtain ⟨hown, he, hfitm, hpos⟩ := hcond
            cases hf
            obtain ⟨cur, fr, hcur, hz, _, hcs, hcm1, hp1, hiz1, hle, h1c, hes, hcv⟩ := hc.row hob hrw
            obtain ⟨rfl, hZ⟩ := hz hown
            have hszz : (c.μ t).sz = ei.size := by
              have := ht.isize; rw [← he, hiz1] at this; exact Option.some.inj this
            have hG : c.G t m = some (c.μ t) := by rw [← hm]; exact Cf.G_of hob hrw
            obtain ⟨z, hzr, hzc⟩ := ht.zeroV c.w
            have hzs : z.cells.size = ei.size := by rw [← Array.length_toList, hzc, ht.len]
            generalize hax : a.eval x = ax at hvx
            cases hvx with
            | sl ht2 hmm hcl h' =>
              rename_i ad cp
              obtain ⟨ha, hcap⟩ : ad = ⟨(c.μ t).blk, off * (c.μ t).sz, none⟩ ∧ off + cp = (c.μ t).cap := by
                rcases h' _ hG with h2 | ⟨h2, _⟩
                · exact h2
                · omega
              subst ha
              have hzl : (Builtin.zeroCells z.cells len).toList.length = len * ei.size := by rw [Array.length_toList, size_zeroCells, hzs]
              have hz1 : ∀ u ∈ (Builtin.zeroCells z.cells len).toList, u.oneCell' = true := fun u hu => by
                have := mem_zeroCells hu
                rw [hzc] at this
                exact plain_oneCell (List.all_eq_true.1 ht.plain u this)
              have hfl : FR c (flatZero ei len) (Builtin.zeroCells z.cells len).toList := by
                have := flatZero_FR (P := P) (c := c) ht hzc (by rw [← hszz]; exact hp1) len
                rw [← hzs] at this
                exact this
              have hflz : ∀ n, flatZero ei n = (List.replicate n (ei.zero.map DV.sc)).flatten := fun n => by
                induction n with
                | zero => rfl
                | succ n ih => rw [flatZero, ih, List.replicate_succ, List.flatten_cons]
              rw [hflz] at hfl
              have hes' : ∀ el ∈ ob.els, el.length = ei.size := fun el hel => by rw [← hszz]; exact hes el hel
              have hfitc : (off + len) * ei.size ≤ cur.size := by
                rw [hcs, hszz]; exact Nat.mul_le_mul_right _ (by omega)
              rw [Nat.add_mul] at hfitc
              have hrun := run_storeCells_at P (c.μ t).blk (off * (c.μ t).sz) ob.e (Builtin.zeroCells z.cells len).toList 0 cur c.w hcur (by rw [hzl, hszz]; omega) hz1
              rw [Nat.add_zero, hszz] at hrun
              have hfr0 := ObjOk.fr (P := P) hle hcs h1c hes hcv
              rw [hszz] at hfr0
              have hfr2 := ((hfr0.take (off * ei.size)).append hfl).append (hfr0.drop ((off + len) * ei.size))
              rw [← flat_take hes', ← flat_drop hes', ← List.flatten_append, ← List.flatten_append] at hfr2
              have hosz : off * ei.size ≤ ob.els.length * ei.size := Nat.mul_le_mul_right _ (by omega)
              have htk : (cur.toList.take (ob.els.length * ei.size)).take (off * ei.size) = cur.toList.take (off * ei.size) := by
                rw [List.take_take, Nat.min_eq_left hosz]
              have hdk : (cur.toList.take (ob.els.length * ei.size)).drop ((off + len) * ei.size) = (cur.toList.drop ((off + len) * ei.size)).take (ob.els.length * ei.size - (off + len) * ei.size) := List.drop_take
              rw [htk, hdk] at hfr2
              have hall2 : ∀ el ∈ ob.els.take off ++ List.replicate len (ei.zero.map DV.sc) ++ ob.els.drop (off + len), el.length = ei.size := fun el hel => by
                rw [List.append_assoc] at hel
                rcases List.mem_append.1 hel with h | h
                · exact hes' el (List.mem_of_mem_take h)
                · rcases List.mem_append.1 h with h | h
                  · rw [List.eq_of_mem_replicate h]; simp [ht.len]
                  · exact hes' el (List.mem_of_mem_drop h)
              have hul2 : off * ei.size + (Builtin.zeroCells z.cells len).toList.length = (off + len) * ei.size := by rw [hzl, Nat.add_mul]
              obtain ⟨h1', h2'⟩ := upd hc hob hown (o' := { ob with els := ob.els.take off ++ List.replicate len (ei.zero.map .sc) ++ ob.els.drop (off + len) }) hown rfl (loc' := c.μ t) (w' := c.w.setRow (c.μ t).blk (cur.toList.take (off * ei.size) ++ (Builtin.zeroCells z.cells len).toList ++ cur.toList.drop (off * ei.size + (Builtin.zeroCells z.cells len).toList.length)).toArray)
                ⟨rfl, rfl, rfl, by simp, fun k _ hk => setRow_other c.w _ k _ (fun e => hk (by simp [e]))⟩ (.inl rfl) rfl (.inr ⟨by simp; omega, rfl⟩) (setRow_heap c.w _ cur _ ob.e _ hcur)
                (by rw [← hcs]; simp only [List.size_toArray, List.length_append, List.length_take, List.length_drop, Array.length_toList] at hzl ⊢; omega) hcm1 (by simp; omega)
                (fun u hu => by
                  simp only [List.mem_append] at hu
                  rcases hu with (hu | hu) | hu
                  · exact h1c u (List.mem_of_mem_take hu)
                  · exact hz1 u hu
                  · exact h1c u (List.mem_of_mem_drop hu))
                (fun el hel => by rw [hszz]; exact hall2 el hel)
                (fun i' j el x hi' hj => by
                  rw [hszz]
                  obtain ⟨u, hu, hv⟩ := hfr2.els hall2 i' j el x hi' hj
                  refine ⟨u, ?_, hv⟩
                  simp only [List.getElem?_toArray]
                  rw [hul2]
                  exact prefix_get hu)
              refine ⟨.tuple #[], .tup [], _, ?_, h1', h2', V_undef, hK⟩
              have hc1 : (Builtin.clear_ #[ty] o.type #[.slice (some ⟨(c.μ t).blk, off * ei.size, none⟩) len cp]).run P c.w = .ok (.tuple #[]) (c.w.setRow (c.μ t).blk (cur.toList.take (off * ei.size) ++ (Builtin.zeroCells z.cells len).toList ++ cur.toList.drop (off * ei.size + (Builtin.zeroCells z.cells len).toList.length)).toArray) := by
                obtain ⟨len', rfl⟩ : ∃ k, len = k + 1 := ⟨len - 1, by omega⟩
                simp [Builtin.clear_, run_underlying hty, hzr, hrun]
              rw [hszz] at hax
              simp only [execOp, ho, resolve, invoke, builtin, Sem.run_bind, Sem.run_pure, Result.andThen_ok, List.map_toArray, List.map_cons, List.map_nil, hax, hc1]
          · cases hf
        · cases hf
      · cases hf
    · cases hf
  · cases hf

/-- A cut x[lo:hi:max]: of a row of its own nothing is told. -/
def cutM (T : Tab) (σ : Heap) (ty : TypeId) (x : DV) (lo hi : Option Int) (mx : Int) : Option DV :=
  match T ty with
  | some ⟨.slice e, _, _, _⟩ => match T e with
    | some ei => (match x with
      | .imm l => if 0 ≤ lo.getD 0 ∧ lo.getD 0 ≤ hi.getD l.length ∧ hi.isSome = true ∧ hi.getD l.length ≤ mx ∧ mx ≤ l.length ∧ (l.all fun el => el.length == ei.size) = true then some (.imm ((l.take (hi.getD l.length).toNat).drop (lo.getD 0).toNat)) else none
      | .sl t off len m => if 0 ≤ lo.getD 0 ∧ lo.getD 0 ≤ hi.getD len ∧ hi.isSome = true ∧ hi.getD len ≤ mx ∧ mx ≤ len then some .any else none
      | _ => none)
    | none => none
  | _ => none
theorem AOp.cutM (hT : TOk P T) {ty : TypeId} {x mo : Operand} {lo hi : Option Operand} {lv hv : Option Int} {mx : Int} {k1 k2 k3 : IntKind} {d y : DV} (ho : o.op = .slice ty x lo hi (some mo)) (hx : Cm.eval ts x = some d) (hl : optEv ts k1 lo lv) (hh : optEv ts k2 hi hv) (hm : Cm.eval ts mo = some (.sc (.int k3 mx)))
    (hy : Cm.cutM T σ ty d lv hv mx = some y) (hK : K y σ) : AOp P o ts σ K := by
  refine AOp.val (fun c hc hσ a hTR => ?_) hK
  subst hσ
  have hlo := optEv_map hTR hl
  have hhi := optEv_map hTR hh
  obtain ⟨hmo, _⟩ := (hTR.eval hm).plain_inv
  have hvx := hTR.eval hx
  unfold Cm.cutM at hy
  split at hy
  · rename_i e sz by_ ze hty
    have hd := (hT _ _ hty).desc
    simp only [descOk] at hd
    split at hy
    · rename_i ei hei
      have te := hT _ _ hei
      have run : ∀ (A : Option Addr) (n cp : Nat), 0 ≤ lv.getD 0 → lv.getD 0 ≤ hv.getD n → hv.isSome = true → hv.getD n ≤ mx → mx ≤ cp →
          (Instr.sliceAt ty (.slice A n cp) (lv.map (Value.int k1)) (hv.map (Value.int k2)) (some (.int k3 mx))).run P c.w = .ok (.slice (if mx.toNat = (lv.getD 0).toNat then A else A.map (·.add ((lv.getD 0).toNat * ei.size))) ((hv.getD n).toNat - (lv.getD 0).toNat) (mx.toNat - (lv.getD 0).toNat)) c.w := fun A n cp h0 h1 hs h2 h3 => by
        obtain ⟨h, rfl⟩ := Option.isSome_iff_exists.1 hs
        simp only [Option.getD_some] at h1 h2
        have h4 : 0 ≤ mx := by omega
        have h5 : 0 ≤ h := by omega
        have h6 : max mx 0 = mx := Int.max_eq_left h4
        have h8 : max h 0 = h := Int.max_eq_left h5
        have hb : (Instr.sliceBounds true n cp (lv.map (Value.int k1)) (some (Value.int k2 h)) (some (.int k3 mx))).run P c.w = .ok ((lv.getD 0).toNat, h.toNat, mx.toNat) c.w := by
          cases lv with
          | none => simp [Instr.sliceBounds, Instr.sliceBound, asIntOf, h2, h3, h4, h5, h6]
          | some l =>
            simp only [Option.getD_some] at h0 h1
            simp [Instr.sliceBounds, Instr.sliceBound, asIntOf, h0, h1, h2, h3, h4, h5, h6, h8]
        simp [Instr.sliceAt, Instr.slice, run_underlying hd, hb, te.sizeOf]
      have hex : ∀ (v r : Value), a.eval x = v → (Instr.sliceAt ty v (lv.map (Value.int k1)) (hv.map (Value.int k2)) (some (.int k3 mx))).run P c.w = .ok r c.w → (execOp a.eval o).run P c.w = .ok (.value r) c.w := fun v r h1 h2 => by
        simp only [execOp, ho, h1, hlo, hhi, Option.map_some, hmo]
        rw [Sem.run_bind, h2]; rfl
      split at hy
      · rename_i l
        split at hy
        · rename_i hcond
          cases hy
          obtain ⟨h0, h1, hs, h2, h2m, h3⟩ := hcond
          generalize hax : a.eval x = ax at hvx
          have hvx' := hvx
          cases hvx with
          | imm hcl hm hsz hul hA hA0 h1c hvv =>
            rename_i sz2 A cp us
            refine ⟨_, hex _ _ hax (run A l.length cp h0 h1 hs h2 (by omega)), ?_⟩
            obtain ⟨p, hp⟩ : ∃ p, (lv.getD 0).toNat = p := ⟨_, rfl⟩
            obtain ⟨q, hq⟩ : ∃ q, (hv.getD (l.length : Int)).toNat = q := ⟨_, rfl⟩
            obtain ⟨r, hr⟩ : ∃ r, mx.toNat = r := ⟨_, rfl⟩
            have hpq : p ≤ q := by omega
            have hqr : q ≤ r := by omega
            have hrl : r ≤ l.length := by omega
            rw [hp, hq, hr]
            have hlen : ((l.take q).drop p).length = q - p := by simp; omega
            rw [← hlen]
            have hmul : p * sz2 ≤ q * sz2 := Nat.mul_le_mul_right _ hpq
            have hmul2 : q * sz2 ≤ l.length * sz2 := Nat.mul_le_mul_right _ (by omega)
            have hszz : l ≠ [] → sz2 = ei.size := fun hne => by
              obtain ⟨el, hel⟩ := List.exists_mem_of_ne_nil l hne
              have := List.all_eq_true.1 h3 el hel
              rw [← hsz el hel]; simpa using this
            refine .imm (sz := sz2) (us := (us.take (q * sz2)).drop (p * sz2)) (by rw [hlen]; omega) (by omega) (fun el hel => hsz el (List.mem_of_mem_take (List.mem_of_mem_drop hel))) (by rw [hlen, Nat.sub_mul]; simp; omega) (fun hne => ?_) (fun hn => ?_) (fun u hu => h1c u (List.mem_of_mem_take (List.mem_of_mem_drop hu))) (fun i j el x u hi hj hu => ?_)
            · have hune : us ≠ [] := by intro e; subst e; simp at hne
              obtain ⟨ad, rfl, hsp, hz, hs2⟩ := hA hune
              have hlt : p * sz2 < (us.take (q * sz2)).length := by
                rcases Nat.lt_or_ge (p * sz2) (us.take (q * sz2)).length with h | h
                · exact h
                · exact absurd (List.drop_eq_nil_of_le h) hne
              rw [List.length_take] at hlt
              have hpq2 : p < q := by
                rcases Nat.lt_or_ge p q with h | h
                · exact h
                · have : q * sz2 ≤ p * sz2 := Nat.mul_le_mul_right _ h
                  omega
              have hlne : l ≠ [] := by intro e; subst e; simp at hrl; omega
              rw [if_neg (by omega)]
              refine ⟨ad.add (p * ei.size), rfl, by rw [cell_lit (w := c.w) hsp], by rw [Addr.add_block']; exact hz, fun j u hu => ?_⟩
              rw [List.getElem?_drop, List.getElem?_take] at hu
              split at hu
              · have := hs2 _ u hu
                rw [cell_lit (w := c.w) hsp] at this ⊢
                rw [cell_lit (w := c.w) rfl, ← hszz hlne, Nat.add_assoc]; exact this
              · cases hu
            · have hAn : A = none := by
                split at hn
                · exact hn
                · cases A <;> simp_all
              obtain ⟨e1, e2⟩ := hA0 hAn
              subst e1
              exact ⟨by simp, by simp at hrl; omega⟩
            · rw [List.getElem?_drop, List.getElem?_take] at hi
              split at hi
              · rw [List.getElem?_drop, List.getElem?_take] at hu
                split at hu
                · rw [← Nat.add_assoc, ← Nat.add_mul] at hu
                  exact hvv (p + i) j el x u hi hj hu
                · cases hu
              · cases hi
        · cases hy
      · rename_i t off len m
        split at hy
        · rename_i hcond
          cases hy
          obtain ⟨h0, h1, hs, h2, h2m⟩ := hcond
          generalize hax : a.eval x = ax at hvx
          cases hvx with
          | sl ht hmm hcl h =>
            rename_i ad cp
            exact ⟨_, hex _ _ hax (run (some ad) len cp h0 h1 hs h2 (by omega)), .any⟩
        · cases hy
      · cases hy
    · cases hy
  · cases hy
end
end Go.Proofs.Ytdkhlhfdjggbpaa.Cm
