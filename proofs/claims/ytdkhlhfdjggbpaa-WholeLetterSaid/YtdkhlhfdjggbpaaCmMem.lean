import Derived.Test.YtdkhlhfdjggbpaaCmTy
set_option linter.unusedVariables false
set_option linter.unusedSimpArgs false
namespace Go.Proofs.Ytdkhlhfdjggbpaa.Cm
open Go.RowKit

def cellsD : DV → List DV
  | .agg l => l
  | x => [x]
/-- l with the cells from j on written over. -/
def splice {α : Type} (l : List α) (j : Nat) (cs : List α) : List α := l.take j ++ cs ++ l.drop (j + cs.length)
theorem splice_length {α : Type} {l : List α} {j : Nat} {cs : List α} (h : j + cs.length ≤ l.length) : (splice l j cs).length = l.length := by simp [splice]; omega
theorem splice_get {α : Type} {l : List α} {j : Nat} {cs : List α} (h : j + cs.length ≤ l.length) (k : Nat) : (splice l j cs)[k]? = if j ≤ k ∧ k < j + cs.length then cs[k - j]? else l[k]? := by
  unfold splice
  have hl : (l.take j).length = j := by rw [List.length_take]; omega
  rw [List.append_assoc]
  by_cases h1 : k < j
  · rw [List.getElem?_append_left (by omega), List.getElem?_take, if_pos h1, if_neg (by omega)]
  · rw [List.getElem?_append_right (by omega), hl]
    by_cases h2 : k < j + cs.length
    · rw [List.getElem?_append_left (by omega), if_pos ⟨by omega, h2⟩]
    · rw [List.getElem?_append_right (by omega), List.getElem?_drop, if_neg (by omega)]
      congr 1; omega

theorem cellsD_V {c : Cf} {y : DV} {v : Value} (hv : V c y v) (hl : (cellsD y).all leaf = true) :
    v.cells.size = (cellsD y).length ∧ (∀ u ∈ v.cells.toList, u.oneCell' = true) ∧ (∀ (k : Nat) (x : DV) (u : Value), (cellsD y)[k]? = some x → v.cells.toList[k]? = some u → V c x u) := by
  have one : ∀ (y : DV) (v : Value), V c y v → leaf y = true → v.cells.size = [y].length ∧ (∀ u ∈ v.cells.toList, u.oneCell' = true) ∧ (∀ (k : Nat) (x : DV) (u : Value), [y][k]? = some x → v.cells.toList[k]? = some u → V c x u) := by
    intro y v hv hl
    rw [hv.cells hl]
    refine ⟨rfl, fun u hu => ?_, fun k x u hx hu => ?_⟩
    · simp at hu; subst hu; exact hv.leaf hl
    · cases k with
      | zero => simp at hx hu; subst hx; subst hu; exact hv
      | succ k => simp at hx
  cases y with
  | agg l =>
    cases hv with
    | agg hlen hv =>
      rename_i us
      refine ⟨by simp [Value.cells, cellsD, hlen], fun u hu => ?_, fun k x u hx hu => ?_⟩
      · simp [Value.cells] at hu
        obtain ⟨k, hk, rfl⟩ := List.getElem_of_mem hu
        have hkl : k < l.length := by omega
        have hm := List.all_eq_true.1 hl l[k] (List.getElem_mem hkl)
        exact (hv k _ _ (List.getElem?_eq_getElem hkl) (List.getElem?_eq_getElem hk)).leaf hm
      · exact hv k x u hx (by simpa [Value.cells] using hu)
  | _ => exact one _ v hv (by simpa [cellsD] using hl)

/-- A store. -/
def storeD (T : Tab) (σ : Heap) (ty : TypeId) (x y : DV) : Option Heap :=
  match x, T ty with
  | .ptr t i j m, some ti => match getO σ t m with
    | some o => match o.els[i]? with
      | some el => if o.own = true ∧ (cellsD y).length = ti.size ∧ j + (cellsD y).length ≤ el.length ∧ (cellsD y).all leaf = true then some (σ.set t { o with els := o.els.set i (splice el j (cellsD y)) }) else none
      | none => none
    | none => none
  | _, _ => none

theorem seg_out {sz i i' j j' n : Nat} (hij : i' ≠ i) (h1 : j' < sz) (h2 : j + n ≤ sz) : ¬ (i * sz + j ≤ i' * sz + j' ∧ i' * sz + j' < i * sz + j + n) := by
  rcases Nat.lt_or_gt_of_ne hij with h | h
  · have : (i' + 1) * sz ≤ i * sz := Nat.mul_le_mul_right _ h
    rw [Nat.add_mul] at this; omega
  · have : (i + 1) * sz ≤ i' * sz := Nat.mul_le_mul_right _ h
    rw [Nat.add_mul] at this; omega

theorem AOp.store {P : Program} {T : Tab} (hT : TOk P T) {o : Oper} {ts : List DV} {σ σ' : Heap} {K : DV → Heap → Prop} {ty : TypeId} {x y : Operand} {d e : DV} (ho : o.op = .store ty x y) (hx : Cm.eval ts x = some d) (hy : Cm.eval ts y = some e)
    (hs : storeD T σ ty d e = some σ') (hK : K (.tup []) σ') : AOp P o ts σ K := by
  intro c hc hσ a hTR next Q hn
  subst hσ
  have hvx := hTR.eval hx
  have hvy := hTR.eval hy
  unfold storeD at hs
  split at hs
  · rename_i t i j m ti hti
    split at hs
    · rename_i ob hob
      split at hs
      · rename_i el hel
        split at hs
        · rename_i hcond
          obtain ⟨hown, hsz, hfit, hleaf⟩ := hcond
          cases hs
          obtain ⟨hob, hm, hrw⟩ := getO_eq hob
          obtain ⟨hcs, h1, hvs⟩ := cellsD_V hvy hleaf
          obtain ⟨cur, fr, hcur, hz, _, hcsz, hcm, hp, hi, hle, h1c, hes, hcv⟩ := hc.row hob hrw
          obtain ⟨rfl, hZ⟩ := hz hown
          generalize hax : a.eval x = ax at hvx
          cases hvx with
          | ptr ht hmm h =>
            rename_i ad
            have had := h _ (by rw [← hm]; exact Cf.G_of hob hrw)
            subst had
            have hel1 : el.length = (c.μ t).sz := hes el (List.mem_of_getElem? hel)
            have hilt : i < ob.els.length := (List.getElem?_eq_some_iff.1 hel).1
            have hfit2 : i * (c.μ t).sz + (c.μ t).sz ≤ cur.size := by
              rw [hcsz]
              have : (i + 1) * (c.μ t).sz ≤ (c.μ t).cap * (c.μ t).sz := Nat.mul_le_mul_right _ (by omega)
              rw [Nat.add_mul] at this; omega
            have hlen : (a.eval y).cells.toList.length = (cellsD e).length := by simpa using hcs
            have hrun := run_storeCells_at P (c.μ t).blk (i * (c.μ t).sz + j) ob.e (a.eval y).cells.toList 0 cur c.w hcur (by omega) h1
            rw [Nat.add_zero] at hrun
            have hfit3 : i * (c.μ t).sz + j + (a.eval y).cells.toList.length ≤ cur.toList.length := by simp only [Array.length_toList] at hlen ⊢; omega
            obtain ⟨h1', h2'⟩ := upd hc hob hown (o' := { ob with els := ob.els.set i (splice el j (cellsD e)) }) hown rfl (loc' := c.μ t)
              (w' := c.w.setRow (c.μ t).blk (splice cur.toList (i * (c.μ t).sz + j) (a.eval y).cells.toList).toArray)
              ⟨rfl, rfl, rfl, by simp, fun k _ hk => setRow_other c.w _ k _ (fun e => hk (by simp [e]))⟩ (.inl rfl) rfl (.inr ⟨by simp, rfl⟩)
              (setRow_heap c.w _ cur _ ob.e _ hcur) (by simp [splice_length hfit3, hcsz]) hcm (by simpa using hle)
              (fun u hu => by
                simp [splice] at hu
                rcases hu with hu | hu | hu
                · exact h1c u (List.mem_of_mem_take hu)
                · exact h1 u (by simpa using hu)
                · exact h1c u (List.mem_of_mem_drop hu))
              (fun el' hel' => by
                rcases List.mem_or_eq_of_mem_set hel' with h | h
                · exact hes el' h
                · rw [h, splice_length hfit]; exact hel1)
              (fun i' j' el' x hi' hj' => by
                simp only [List.getElem?_toArray, splice_get hfit3]
                by_cases hii : i' = i
                · subst hii
                  rw [List.getElem?_set_self hilt] at hi'
                  cases hi'
                  rw [splice_get hfit] at hj'
                  by_cases hjj : j ≤ j' ∧ j' < j + (cellsD e).length
                  · rw [if_pos hjj] at hj'
                    rw [if_pos (by omega)]
                    have : i' * (c.μ t).sz + j' - (i' * (c.μ t).sz + j) = j' - j := by omega
                    rw [this]
                    have hlt : j' - j < (a.eval y).cells.toList.length := by omega
                    exact ⟨_, List.getElem?_eq_getElem hlt, hvs _ _ _ hj' (List.getElem?_eq_getElem hlt)⟩
                  · rw [if_neg hjj] at hj'
                    rw [if_neg (by omega)]
                    obtain ⟨u, hu, hv⟩ := hcv i' j' el x hel hj'
                    exact ⟨u, by simpa using hu, hv⟩
                · rw [List.getElem?_set_ne (Ne.symm hii)] at hi'
                  have hj'' : j' < (c.μ t).sz := by
                    rw [← hes el' (List.mem_of_getElem? hi')]; exact (List.getElem?_eq_some_iff.1 hj').1
                  rw [if_neg (by rw [hlen]; exact seg_out hii hj'' (by omega))]
                  obtain ⟨u, hu, hv⟩ := hcv i' j' el' x hi' hj'
                  exact ⟨u, by simpa using hu, hv⟩)
            have hvsz : (a.eval y).cells.size = ti.size := by omega
            unfold Oper.wp
            have hr : (execOp a.eval o).run P c.w = .ok .skip (c.w.setRow (c.μ t).blk (splice cur.toList (i * (c.μ t).sz + j) (a.eval y).cells.toList).toArray) := by
              simp only [execOp, ho, hax, Instr.storeAt, Instr.sureAddr, storeVar, Sem.run_bind, Sem.run_pure, Result.andThen_ok, (hT _ _ hti).sizeOf, hvsz]
              simp only [ne_eq, not_true_eq_false, if_false, Sem.run_bind, Sem.run_pure, Result.andThen_ok, hrun, splice]
            rw [hr]
            exact hn undef (.tup []) _ h1' h2' V_undef hK
        · cases hs
      · cases hs
    · cases hs
  · cases hs

/-- New rows. -/
theorem new_row {P : Program} {c : Cf} (hc : Ok P c) {e : TypeId} {ti : TI} (hti : TIOk P e ti) (hp : 0 < ti.size) {els : List (List DV)} {cs : List Value} {cap : Nat} (hcap : cap ≤ maxLen) (hle : els.length ≤ cap) (hcs : cs.length = cap * ti.size)
    (h1 : ∀ u ∈ cs, u.oneCell' = true) (hes : ∀ el ∈ els, el.length = ti.size) (hv : ∀ (i j : Nat) (el : List DV) (x : DV), els[i]? = some el → el[j]? = some x → ∃ u, cs[i * ti.size + j]? = some u ∧ V c x u) :
    ∃ c', c'.σ = c.σ.push ⟨els, e, true⟩ ∧ c'.w = c.w.alloc (.cells cs.toArray e) ∧ c'.μ c.σ.n = ⟨c.w.heap.size, cap, ti.size⟩ ∧ Ok P c' ∧ Ev c c' := by
  obtain ⟨h1', h2'⟩ := make hc (o := ⟨els, e, true⟩) rfl (loc := ⟨c.w.heap.size, cap, ti.size⟩) (w' := c.w.alloc (.cells cs.toArray e)) (World.grownBy_alloc c.w _ none) (Nat.le_refl _) (cur := cs.toArray) (heap_alloc_new c.w _) (by simpa using hcs) hcap hp hti.isize hle
    (by simpa using h1) hes (fun i j el x hi hx => by obtain ⟨u, hu, hv⟩ := hv i j el x hi hx; exact ⟨u, by simpa using hu, hv⟩)
  exact ⟨_, rfl, rfl, by simp, h1', h2'⟩

/-- A new variable. -/
def boxD (T : Tab) (σ : Heap) (e : TypeId) (y : DV) : Option (DV × Heap) :=
  match T e with
  | some ti => if 0 < ti.size ∧ (cellsD y).length = ti.size ∧ (cellsD y).all leaf = true then some (.ptr σ.n 0 0 1, σ.push ⟨[cellsD y], e, true⟩) else none
  | none => none

theorem V_newptr {P : Program} {c c' : Cf} {o : AObj} {loc : Loc} (hσ : c'.σ = c.σ.push o) (hμ : c'.μ c.σ.n = loc) (hl : o.ln = 1) : V c' (.ptr c.σ.n 0 0 1) (.pointer (some ⟨loc.blk, 0, none⟩)) := by
  refine .ptr (by rw [hσ]; simp) (by rw [Cf.len, hσ, Heap.get_push]; simp [hl]) (fun lc hg => ?_)
  simp only [Cf.G, hσ, Heap.get_push, hl, if_true, Option.some.injEq] at hg
  rw [← hg, hμ]; simp

theorem AOp.box {P : Program} {T : Tab} (hT : TOk P T) {o : Oper} {ts : List DV} {σ : Heap} {K : DV → Heap → Prop} {e : TypeId} {x : Operand} {d : DV} {r : DV × Heap} (ho : o.op = .box e x) (hx : Cm.eval ts x = some d) (hb : boxD T σ e d = some r)
    (hK : K r.1 r.2) : AOp P o ts σ K := by
  refine AOp.run (fun c hc hσ a hTR => ?_)
  subst hσ
  have hv := hTR.eval hx
  unfold boxD at hb
  split at hb
  · rename_i ti hti
    split at hb
    · rename_i hcond
      obtain ⟨hp, hsz, hleaf⟩ := hcond
      cases hb
      obtain ⟨hcs, h1, hvs⟩ := cellsD_V hv hleaf
      obtain ⟨c', hσ', hw', hμ', h1', h2'⟩ := new_row hc (hT _ _ hti) hp (els := [cellsD d]) (cs := (a.eval x).cells.toList) (cap := 1) (by simp [maxLen]) (by simp) (by simp; omega) h1 (by simpa using hsz)
        (fun i j el y hi hj => by
          cases i with
          | zero =>
            simp at hi; subst hi
            have hlt : j < (a.eval x).cells.toList.length := by have := (List.getElem?_eq_some_iff.1 hj).1; simp; omega
            exact ⟨_, by rw [Nat.zero_mul, Nat.zero_add]; exact List.getElem?_eq_getElem hlt, hvs j y _ hj (List.getElem?_eq_getElem hlt)⟩
          | succ i => simp at hi)
      refine ⟨_, _, c', ?_, h1', h2', V_newptr (P := P) hσ' hμ' rfl, by rw [hσ']; exact hK⟩
      rw [hw']
      simp [execOp, ho, Instr.box, newVar, newRow]
    · cases hb
  · cases hb

theorem AOp.alloc {P : Program} {T : Tab} (hT : TOk P T) {o : Oper} {ts : List DV} {σ : Heap} {K : DV → Heap → Prop} {e : TypeId} {ti : TI} (ho : o.op = .alloc e) (hti : T e = some ti) (hp : 0 < ti.size)
    (hK : K (.ptr σ.n 0 0 1) (σ.push ⟨[ti.zero.map .sc], e, true⟩)) : AOp P o ts σ K := by
  refine AOp.run (fun c hc hσ a hTR => ?_)
  subst hσ
  have ht := hT _ _ hti
  obtain ⟨z, hz, hzc⟩ := ht.zeroV c.w
  obtain ⟨c', hσ', hw', hμ', h1', h2'⟩ := new_row hc ht hp (els := [ti.zero.map .sc]) (cs := z.cells.toList) (cap := 1) (by simp [maxLen]) (by simp) (by rw [hzc, ht.len]; simp) (fun u hu => plain_oneCell (List.all_eq_true.1 ht.plain u (by rw [hzc] at hu; exact hu))) (by simp [ht.len])
    (fun i j el y hi hj => by
      cases i with
      | zero =>
        simp at hi; subst hi
        have hlt : j < ti.zero.length := by have := (List.getElem?_eq_some_iff.1 hj).1; simpa using this
        refine ⟨ti.zero[j], by rw [hzc, Nat.zero_mul, Nat.zero_add]; exact List.getElem?_eq_getElem hlt, ?_⟩
        exact V_map _ ht.plain j y _ hj (List.getElem?_eq_getElem hlt)
      | succ i => simp at hi)
  refine ⟨_, _, c', ?_, h1', h2', V_newptr (P := P) hσ' hμ' rfl, by rw [hσ']; exact hK⟩
  rw [hw']
  simp [execOp, ho, Instr.alloc, newVar, newRow, hz]

/-- The address of a field. -/
def fieldAddrD (T : Tab) (s : TypeId) (f : Nat) : DV → Option DV := fun x =>
  match T s with
  | some ⟨.struct fs _, _, _, _⟩ => match fs[f]? with
    | some (off, ft) => match T ft with
      | some fi => if fi.size = 0 then none else match x with
        | .ptr t i j m => some (.ptr t i (j + off) m)
        | .ip l => some (.ip (l.drop off))
        | _ => none
      | none => none
    | none => none
  | _ => none

theorem V_addr_add {c : Cf} {x : DV} {a : Addr} {off : Nat} :
    (∀ t i j m, x = .ptr t i j m → V c x (.pointer (some a)) → V c (.ptr t i (j + off) m) (.pointer (some (a.add off)))) ∧ (∀ l, x = .ip l → V c x (.pointer (some a)) → V c (.ip (l.drop off)) (.pointer (some (a.add off)))) := by
  refine ⟨fun t i j m hx hv => ?_, fun l hx hv => ?_⟩
  · subst hx
    cases hv with
    | ptr ht hm h =>
      refine .ptr ht hm (fun loc hg => ?_)
      rw [h loc hg, cell_lit (w := c.w) rfl]
      simp only [Addr.mk.injEq, and_true, true_and]; omega
  · subst hx
    cases hv with
    | ip hl hz hs ha h1 hv =>
      rename_i us
      refine .ip (us := us.drop off) (by simp [hl]) (by rw [Addr.add_block']; exact hz) (fun j u hu => ?_) (by rw [cell_lit (w := c.w) ha]) (fun u hu => h1 u (List.mem_of_mem_drop hu)) (fun j x u hx hu => ?_)
      · rw [List.getElem?_drop] at hu
        have := hs _ u hu
        rw [cell_lit (w := c.w) ha] at this ⊢
        rw [cell_lit (w := c.w) rfl, Nat.add_assoc]; exact this
      · rw [List.getElem?_drop] at hx hu
        exact hv _ x u hx hu

theorem AOp.fieldAddr {P : Program} {T : Tab} (hT : TOk P T) {o : Oper} {ts : List DV} {σ : Heap} {K : DV → Heap → Prop} {s : TypeId} {x : Operand} {f : Nat} {d y : DV} (ho : o.op = .fieldAddr s x f) (hx : Cm.eval ts x = some d) (hf : fieldAddrD T s f d = some y)
    (hK : K y σ) : AOp P o ts σ K := by
  refine AOp.val (fun c hc hσ a hTR => ?_) hK
  subst hσ
  have hv := hTR.eval hx
  unfold fieldAddrD at hf
  split at hf
  · rename_i fs sz by_ ze hs
    split at hf
    · rename_i off ft hfs
      split at hf
      · rename_i fi hfi
        split at hf
        · cases hf
        · rename_i hz0
          have ts := hT _ _ hs
          obtain ⟨F, hF, hFs⟩ := ts.desc
          have tf := hT _ _ hfi
          rw [← hFs, List.getElem?_map] at hfs
          obtain ⟨fld, hfld, hff⟩ := Option.map_eq_some_iff.1 hfs
          cases hff
          have run : ∀ ad, (Instr.fieldAt s (.pointer (some ad)) f).run P c.w = .ok (.pointer (some (ad.add fld.offset))) c.w := fun ad => by
            have : F[f]? = some fld := by simpa using hfld
            simp [Instr.fieldAt, run_underlying hF, this, Instr.sureAddr, fieldPlace, tf.sizeOf, hz0]
          split at hf
          · cases hf
            generalize hax : a.eval x = ax at hv
            have hv' := hv
            cases hv with
            | ptr ht hm h => exact ⟨_, by simp [execOp, ho, hax, run], (V_addr_add (x := .ptr _ _ _ _)).1 _ _ _ _ rfl hv'⟩
          · cases hf
            generalize hax : a.eval x = ax at hv
            have hv' := hv
            cases hv with
            | ip hl hz hs ha h1 hv => exact ⟨_, by simp [execOp, ho, hax, run], (V_addr_add (x := .ip _)).2 _ rfl hv'⟩
          · cases hf
      · cases hf
    · cases hf
  · cases hf

/-- A part of a struct's cells. -/
def partD (T : Tab) (ty : TypeId) (l : List DV) (off : Nat) : Option DV :=
  match T ty with
  | some ti => if ti.isAgg then some (.agg ((l.drop off).take ti.size)) else l[off]?
  | none => none
theorem part_run {P : Program} {T : Tab} (hT : TOk P T) {c : Cf} {ty : TypeId} {l : List DV} {us : List Value} {off : Nat} {y : DV} (hl : us.length = l.length) (hv : ∀ (j : Nat) (x : DV) (u : Value), l[j]? = some x → us[j]? = some u → V c x u) (h : partD T ty l off = some y) :
    ∃ u, (part ty us.toArray off).run P c.w = .ok u c.w ∧ V c y u := by
  unfold partD at h
  split at h
  · rename_i ti hti
    have ht := hT _ _ hti
    split at h
    · rename_i hag
      cases h
      refine ⟨.agg ((us.drop off).take ti.size).toArray, ?_, V.agg (by simp [hl]) (fun j x u hx hu => ?_)⟩
      · simp only [part, Sem.run_bind, ht.agg, hag, Result.andThen_ok, if_true, ht.sizeOf, Sem.run_pure]
        congr 2
        apply Array.ext'
        simp [List.extract_eq_take_drop]
      · rw [List.getElem?_take] at hx hu
        split at hx
        · rename_i hj
          rw [if_pos hj] at hu
          rw [List.getElem?_drop] at hx hu
          exact hv _ x u hx hu
        · cases hx
    · rename_i hag
      have hag' : ti.isAgg = false := by simpa using hag
      have hlt : off < us.length := by rw [hl]; exact (List.getElem?_eq_some_iff.1 h).1
      refine ⟨us[off], ?_, hv off y _ h (List.getElem?_eq_getElem hlt)⟩
      simp [part, ht.agg, hag', hlt]
  · cases h
def fieldD (T : Tab) (s : TypeId) (f : Nat) (x : DV) : Option DV :=
  match x, T s with
  | .agg l, some ⟨.struct fs _, _, _, _⟩ => match fs[f]? with
    | some (off, ft) => partD T ft l off
    | none => none
  | _, _ => none
theorem AOp.field {P : Program} {T : Tab} (hT : TOk P T) {o : Oper} {ts : List DV} {σ : Heap} {K : DV → Heap → Prop} {s : TypeId} {x : Operand} {f : Nat} {d y : DV} (ho : o.op = .field s x f) (hx : Cm.eval ts x = some d) (hf : fieldD T s f d = some y)
    (hK : K y σ) : AOp P o ts σ K := by
  refine AOp.val (fun c hc hσ a hTR => ?_) hK
  subst hσ
  have hv := hTR.eval hx
  unfold fieldD at hf
  split at hf
  · rename_i l fs sz by_ ze hs
    split at hf
    · rename_i off ft hfs
      obtain ⟨F, hF, hFs⟩ := (hT _ _ hs).desc
      rw [← hFs, List.getElem?_map] at hfs
      obtain ⟨fld, hfld, hff⟩ := Option.map_eq_some_iff.1 hfs
      cases hff
      generalize hax : a.eval x = ax at hv
      cases hv with
      | agg hl hv =>
        obtain ⟨u, hr, hu⟩ := part_run hT hl hv hf
        have : F[f]? = some fld := by simpa using hfld
        exact ⟨u, by simp [execOp, ho, hax, Instr.field, run_underlying hF, this, asAgg, hr], hu⟩
    · cases hf
  · cases hf

/-- The address of an element. -/
def indexAddrD (T : Tab) (σ : Heap) (ty : TypeId) (x : DV) (i : Int) : Option DV :=
  match T ty with
  | some ⟨.slice e, _, _, _⟩ => match T e with
    | some ei => match x with
      | .sl t off len m => match getO σ t m with
        | some o => match T o.e with
          | some oi => if oi.size = ei.size ∧ 0 ≤ i ∧ i < len then some (.ptr t (off + i.toNat) 0 m) else none
          | none => none
        | none => none
      | .imm l => if 0 ≤ i ∧ i < l.length then (match l[i.toNat]? with | some el => if el.length = ei.size ∧ 0 < ei.size then some (.ip el) else none | none => none) else none
      | _ => none
    | none => none
  | some ⟨.array n e _, _, _, _⟩ => match T e with
    | some ei => if 0 ≤ i ∧ i < n then (match x with
      | .ptr t k j m => some (.ptr t k (j + i.toNat * ei.size) m)
      | .ip l => some (.ip (l.drop (i.toNat * ei.size)))
      | _ => none) else none
    | none => none
  | _ => none
theorem AOp.indexAddr {P : Program} {T : Tab} (hT : TOk P T) {o : Oper} {ts : List DV} {σ : Heap} {K : DV → Heap → Prop} {ty : TypeId} {x ix : Operand} {d y : DV} {k : IntKind} {i : Int} (ho : o.op = .indexAddr ty x ix) (hx : Cm.eval ts x = some d) (hix : Cm.eval ts ix = some (.sc (.int k i)))
    (hf : indexAddrD T σ ty d i = some y) (hK : K y σ) : AOp P o ts σ K := by
  refine AOp.val (fun c hc hσ a hTR => ?_) hK
  subst hσ
  have hv := hTR.eval hx
  have hvi := hTR.eval hix
  have hi : a.eval ix = .int k i := by
    generalize a.eval ix = v at hvi
    cases hvi with
    | sc _ => rfl
  unfold indexAddrD at hf
  split at hf
  · rename_i e sz by_ ze hty
    have hty := (hT _ _ hty).desc
    split at hf
    · rename_i ei hei
      have te := hT _ _ hei
      have run : ∀ (ad : Addr) (len cp : Nat), 0 ≤ i → i < (len : Int) → (Instr.indexAt ty (.slice (some ad) len cp) (.int k i)).run P c.w = .ok (.pointer (some (ad.add (i.toNat * ei.size)))) c.w := fun ad len cp h0 h1 => by
        simp only [descOk] at hty
        simp [Instr.indexAt, asIntOf, run_underlying hty, h0, h1, te.sizeOf]
      split at hf
      · rename_i t off len m
        split at hf
        · rename_i ob hob
          obtain ⟨hob, hm, hrw⟩ := getO_eq hob
          split at hf
          · rename_i oi hoi
            split at hf
            · rename_i hcond
              obtain ⟨hsz, h0, h1⟩ := hcond
              cases hf
              obtain ⟨cur, fr, hcur, _, _, hcsz, hcm, hp, hiz, hle, h1c, hes, hcv⟩ := hc.row hob hrw
              have hszz : (c.μ t).sz = ei.size := by
                have := (hT _ _ hoi).isize
                rw [hiz] at this
                have := Option.some.inj this
                omega
              generalize hax : a.eval x = ax at hv
              cases hv with
              | sl ht hmm hcl h =>
                rename_i ad cp
                refine ⟨.pointer (some (ad.add (i.toNat * ei.size))), by simp [execOp, ho, hax, hi, run ad len cp h0 h1], .ptr ht hmm (fun loc hg => ?_)⟩
                have hG : c.G t m = some (c.μ t) := by rw [← hm]; exact Cf.G_of hob hrw
                rw [hG] at hg; cases hg
                rcases h _ hG with ⟨ha, _⟩ | ⟨hl0, _⟩
                · rw [ha, cell_lit (w := c.w) rfl, ← hszz]
                  simp only [Addr.mk.injEq, and_true, true_and, Nat.add_mul, Nat.add_zero]
                · omega
            · cases hf
          · cases hf
        · cases hf
      · rename_i l
        split at hf
        · rename_i hbd
          split at hf
          · rename_i el hel
            split at hf
            · rename_i hcond
              cases hf
              generalize hax : a.eval x = ax at hv
              cases hv with
              | imm hcl hm hsz hl hA h0 h1 hv =>
                rename_i sz2 A cp us
                have hsz2 : sz2 = ei.size := by rw [← hsz el (List.mem_of_getElem? hel)]; exact hcond.1
                subst hsz2
                have hlt : i.toNat < l.length := by omega
                have hfit : i.toNat * ei.size + ei.size ≤ us.length := by
                  rw [hl]
                  have : (i.toNat + 1) * ei.size ≤ l.length * ei.size := Nat.mul_le_mul_right _ (by omega)
                  rw [Nat.add_mul] at this; omega
                obtain ⟨ad, rfl, hsp, hz, hs⟩ := hA (by intro e; rw [e] at hfit; simp at hfit; omega)
                refine ⟨.pointer (some (ad.add (i.toNat * ei.size))), by simp [execOp, ho, hax, hi, run ad l.length cp hbd.1 hbd.2], ?_⟩
                have hel2 : el.length = ei.size := hcond.1
                refine .ip (us := (us.drop (i.toNat * ei.size)).take ei.size) (by simp; omega) (by rw [Addr.add_block']; exact hz) (fun j u hu => ?_) (by rw [cell_lit (w := c.w) hsp]) (fun u hu => h1 u (List.mem_of_mem_drop (List.mem_of_mem_take hu))) (fun j x u hx hu => ?_)
                · rw [List.getElem?_take] at hu
                  split at hu
                  · rw [List.getElem?_drop] at hu
                    have := hs _ u hu
                    rw [cell_lit (w := c.w) hsp] at this ⊢
                    rw [cell_lit (w := c.w) rfl, Nat.add_assoc]; exact this
                  · cases hu
                · rw [List.getElem?_take] at hu
                  split at hu
                  · rw [List.getElem?_drop] at hu
                    exact hv _ j el x u hel hx hu
                  · cases hu
            · cases hf
          · cases hf
        · cases hf
      · cases hf
    · cases hf
  · rename_i n e sz by_ ze hty
    have hty := (hT _ _ hty).desc
    split at hf
    · rename_i ei hei
      have te := hT _ _ hei
      split at hf
      · rename_i hbd
        have run : ∀ (ad : Addr), (Instr.indexAt ty (.pointer (some ad)) (.int k i)).run P c.w = .ok (.pointer (some (ad.add (i.toNat * ei.size)))) c.w := fun ad => by
          simp only [descOk] at hty
          simp [Instr.indexAt, asIntOf, run_underlying hty, hbd.1, hbd.2, te.sizeOf, Instr.sureAddr]
        split at hf
        · cases hf
          generalize hax : a.eval x = ax at hv
          have hv' := hv
          cases hv with
          | ptr ht hm h => exact ⟨_, by simp [execOp, ho, hax, hi, run], (V_addr_add (x := .ptr _ _ _ _)).1 _ _ _ _ rfl hv'⟩
        · cases hf
          generalize hax : a.eval x = ax at hv
          have hv' := hv
          cases hv with
          | ip hl hz hs ha h1 hv => exact ⟨_, by simp [execOp, ho, hax, hi, run], (V_addr_add (x := .ip _)).2 _ rfl hv'⟩
        · cases hf
      · cases hf
    · cases hf
  · cases hf
end Go.Proofs.Ytdkhlhfdjggbpaa.Cm
