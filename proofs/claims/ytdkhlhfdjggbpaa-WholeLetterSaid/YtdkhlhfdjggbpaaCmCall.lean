import Derived.Test.YtdkhlhfdjggbpaaCmOp2
set_option linter.unusedVariables false
set_option linter.unusedSimpArgs false
namespace Go.Proofs.Ytdkhlhfdjggbpaa.Cm
open Go.RowKit

section
variable {P : Program} {T : Tab} {o : Oper} {ts : List DV} {σ : Heap} {K : DV → Heap → Prop}

/-- Values that tell what is told, one by one (arguments). -/
def VL (c : Cf) (xs : List DV) (vs : List Value) : Prop := vs.length = xs.length ∧ ∀ (j : Nat) (x : DV) (u : Value), xs[j]? = some x → vs[j]? = some u → V c x u
theorem VL.nil (c : Cf) : VL c [] [] := ⟨rfl, by simp⟩
theorem VL.cons {c : Cf} {x : DV} {v : Value} {xs : List DV} {vs : List Value} (h : V c x v) (k : VL c xs vs) : VL c (x :: xs) (v :: vs) := by
  refine ⟨by simp [k.1], fun j y u hy hu => ?_⟩
  cases j with
  | zero => simp at hy hu; subst hy; subst hu; exact h
  | succ j => exact k.2 j y u (by simpa using hy) (by simpa using hu)
theorem VL.append {c : Cf} {xs ys : List DV} {vs us : List Value} (h : VL c xs vs) (k : VL c ys us) : VL c (xs ++ ys) (vs ++ us) := by
  refine ⟨by simp [h.1, k.1], fun j x u hx hu => ?_⟩
  by_cases hj : j < xs.length
  · rw [List.getElem?_append_left hj] at hx
    rw [List.getElem?_append_left (by rw [h.1]; exact hj)] at hu
    exact h.2 j x u hx hu
  · rw [List.getElem?_append_right (by omega)] at hx
    rw [List.getElem?_append_right (by rw [h.1]; omega), h.1] at hu
    exact k.2 _ x u hx hu

/-- A call of function f: R holds of what it answers. -/
def ACalls (P : Program) (f : FuncId) (args : List DV) (σ : Heap) (R : DV → Heap → Prop) : Prop :=
  ∀ (c : Cf), Ok P c → c.σ = σ → ∀ vs, VL c args vs → Calls P f vs.toArray c.w (fun e w' => ∃ v x c', e = .returned v ∧ c'.w = w' ∧ Ok P c' ∧ Ev c c' ∧ V c' x v ∧ R x c'.σ)

theorem ACalls.mono {f : FuncId} {args : List DV} {R R' : DV → Heap → Prop} (h : ACalls P f args σ R) (hr : ∀ x σ', R x σ' → R' x σ') : ACalls P f args σ R' :=
  fun c hc hσ vs hv => (h c hc hσ vs hv).mono fun e w' ⟨v, x, c', h1, h2, h3, h4, h5, h6⟩ => ⟨v, x, c', h1, h2, h3, h4, h5, hr _ _ h6⟩

/-- What is answered may be told otherwise. -/
theorem ACalls.retell {f : FuncId} {args : List DV} {R R' : DV → Heap → Prop} (h : ACalls P f args σ R)
    (hr : ∀ (c : Cf) x v, Ok P c → V c x v → R x c.σ → ∃ x' c', c'.w = c.w ∧ Ok P c' ∧ Ev c c' ∧ V c' x' v ∧ R' x' c'.σ) : ACalls P f args σ R' :=
  fun c hc hσ vs hv => (h c hc hσ vs hv).mono fun e w' ⟨v, x, c', h1, h2, h3, h4, h5, h6⟩ => by
    obtain ⟨x', c'', k1, k2, k3, k4, k5⟩ := hr c' x v h3 h5 h6
    exact ⟨v, x', c'', h1, by rw [k1]; exact h2, k2, h4.trans k3, k4, k5⟩

def evalL (ts : List DV) : List Operand → Option (List DV)
  | [] => some []
  | x :: r => match Cm.eval ts x, evalL ts r with | some d, some l => some (d :: l) | _, _ => none
theorem evalL_VL {c : Cf} {a : Act} (hTR : TR c ts a) : ∀ {xs : List Operand} {ds : List DV}, evalL ts xs = some ds → VL c ds (xs.map a.eval)
  | [], ds, h => by cases h; exact VL.nil c
  | x :: r, ds, h => by
    simp only [evalL] at h
    cases hx : Cm.eval ts x with
    | none => rw [hx] at h; simp at h
    | some d =>
      cases hr : evalL ts r with
      | none => rw [hx, hr] at h; simp at h
      | some l =>
        rw [hx, hr] at h
        cases h
        exact VL.cons (hTR.eval hx) (evalL_VL hTR hr)

/-- A function that may be entered. -/
def FnOk (P : Program) (f : FuncId) : Prop := ∃ fn c, P.funcs[f]? = some fn ∧ fn.name ≠ "runtime.NumGoroutine" ∧ fn.body = some c

theorem AOp.call {cal : Operand} {as : Array Operand} {at_ : Array TypeId} {f : FuncId} {first cap ds : List DV} (ho : o.op = .call { callee := .value cal, args := as, argTypes := at_ }) (hc : Cm.eval ts cal = some (.fn (.func f) first cap)) (hf : FnOk P f)
    (has : evalL ts as.toList = some ds) (h : ACalls P f (first ++ ds ++ cap) σ K) : AOp P o ts σ K := by
  intro c hok hσ a hTR next Q hn
  obtain ⟨fn, code, hfn, hname, hbody⟩ := hf
  have hv := hTR.eval hc
  generalize hax : a.eval cal = ax at hv
  cases hv with
  | fn hl1 hl2 hv1 hv2 =>
    rename_i us1 us2
    have hvl := evalL_VL hTR has
    have hall : VL c (first ++ ds ++ cap) (us1 ++ as.toList.map a.eval ++ us2) := (VL.append ⟨hl1, hv1⟩ hvl).append ⟨hl2, hv2⟩
    have hcalls := h c hok hσ _ hall
    unfold Oper.wp
    have hr : (execOp a.eval o).run P c.w = .ok (.enter f (us1 ++ as.toList.map a.eval ++ us2).toArray) c.w := by
      have he : (us1 ++ as.toList.map a.eval ++ us2).toArray = us1.toArray ++ as.map a.eval ++ us2.toArray := by
        apply Array.ext'; simp
      rw [he]
      simp [execOp, ho, resolve, Deferred.ofValue, hax, invoke, callFunc, hfn, hname, hbody]
    rw [hr, Oper.upon_enter]
    refine hcalls.mono fun e w' hh => ?_
    obtain ⟨v, x, c', rfl, rfl, h3, h4, h5, h6⟩ := hh
    exact hn v x c' h3 h4 h5 h6

/-- What stands in a result's place. -/
def resD (T : Tab) (ts : List DV) (σ : Heap) : ResultVar → Option DV
  | .tmp t => ts[t]?
  | .cell a t => match ts[a]? with | some x => loadD T σ t x | none => none
def resL (T : Tab) (ts : List DV) (σ : Heap) : List ResultVar → Option (List DV)
  | [] => some []
  | r :: rs => match resD T ts σ r, resL T ts σ rs with | some x, some l => some (x :: l) | _, _ => none
def resAll (T : Tab) (ts : List DV) (σ : Heap) (rs : List ResultVar) : Option DV :=
  match resL T ts σ rs with
  | some [x] => some x
  | some l => some (.tup l)
  | none => none

def resSem (tmps : Array Value) : ResultVar → Sem Value
  | .tmp t => pure (tmps.getD t undef)
  | .cell a t => do loadVar t (← asAddr (tmps.getD a undef))
theorem resSem_run (hT : TOk P T) {c : Cf} (hok : Ok P c) {a : Act} (hTR : TR c ts a) {r : ResultVar} {x : DV} (h : resD T ts c.σ r = some x) : ∃ v, (resSem a.tmps r).run P c.w = .ok v c.w ∧ V c x v := by
  cases r with
  | tmp t =>
    obtain ⟨v, hv, hvv⟩ := hTR.at_ t x h
    exact ⟨v, by simp [resSem, Array.getD_eq_getD_getElem?, hv], hvv⟩
  | cell ad t =>
    simp only [resD] at h
    cases hx : ts[ad]? with
    | none => rw [hx] at h; simp at h
    | some y =>
      rw [hx] at h
      obtain ⟨v, hv, hvv⟩ := hTR.at_ ad y hx
      obtain ⟨p, rfl, u, hr, hu⟩ := loadVar_run hT hok hvv h
      exact ⟨u, by simp [resSem, Array.getD_eq_getD_getElem?, hv, asAddr, hr], hu⟩

theorem mapM_run (hT : TOk P T) {c : Cf} (hok : Ok P c) {a : Act} (hTR : TR c ts a) : ∀ {rs : List ResultVar} {l : List DV}, resL T ts c.σ rs = some l → ∃ vs : List Value, (List.mapM (resSem a.tmps) rs).run P c.w = .ok vs c.w ∧ VL c l vs
  | [], l, h => by cases h; exact ⟨[], by simp, VL.nil c⟩
  | r :: rs, l, h => by
    simp only [resL] at h
    cases hr : resD T ts c.σ r with
    | none => rw [hr] at h; simp at h
    | some x =>
      cases hrs : resL T ts c.σ rs with
      | none => rw [hr, hrs] at h; simp at h
      | some m =>
        rw [hr, hrs] at h
        cases h
        obtain ⟨v, h1, h2⟩ := resSem_run hT hok hTR hr
        obtain ⟨vs, h3, h4⟩ := mapM_run hT hok hTR hrs
        exact ⟨v :: vs, by simp [List.mapM_cons, h1, h3], VL.cons h2 h4⟩

theorem results_run (hT : TOk P T) {c : Cf} (hok : Ok P c) {a : Act} (hTR : TR c ts a) {fn : Func} {x : DV} (h : resAll T ts c.σ fn.results.toList = some x) : ∃ v, (results fn a.tmps).run P c.w = .ok v c.w ∧ V c x v := by
  unfold resAll at h
  cases hl : resL T ts c.σ fn.results.toList with
  | none => rw [hl] at h; simp at h
  | some l =>
    rw [hl] at h
    obtain ⟨vs, h1, h2⟩ := mapM_run hT hok hTR hl
    have hm : (fn.results.mapM (resSem a.tmps)).run P c.w = .ok vs.toArray c.w := by
      rw [Array.mapM_eq_mapM_toList, map_eq_pure_bind, Sem.run_bind, h1]; rfl
    have hrun : (results fn a.tmps).run P c.w = .ok (if h : vs.toArray.size = 1 then vs.toArray[0] else .tuple vs.toArray) c.w := by
      have he : results fn a.tmps = (do let vs ← fn.results.mapM (resSem a.tmps); pure (if h : vs.size = 1 then vs[0] else .tuple vs)) := by
        unfold results
        congr 1
      rw [he, Sem.run_bind, hm]; rfl
    refine ⟨_, hrun, ?_⟩
    cases l with
    | nil =>
      have : vs = [] := List.eq_nil_of_length_eq_zero h2.1
      subst this
      cases h; exact V_undef
    | cons y l =>
      cases l with
      | nil =>
        cases h
        have hl1 := h2.1
        match vs, h2 with
        | [v], h2 => exact h2.2 0 _ v rfl rfl
        | [], h2 => exact absurd h2.1 (by simp)
        | _ :: _ :: _, h2 => exact absurd h2.1 (by simp)
      | cons z l =>
        cases h
        have hl1 := h2.1
        rw [dif_neg (by simp at hl1 ⊢; omega)]
        exact V.tup h2.1 h2.2

theorem ACalls.body (hT : TOk P T) {f : FuncId} {args : List DV} {R : DV → Heap → Prop} {fn : Func} {code : Code} (hf : P.funcs[f]? = some fn) (hb : fn.body = some code)
    (h : AW P code (args ++ List.replicate (fn.ntmps - args.length) (.tup [])) σ (fun e ts' σ' => (e = .normal ∨ e = .ret) ∧ ∃ x, resAll T ts' σ' fn.results.toList = some x ∧ R x σ')) : ACalls P f args σ R := by
  intro c hc hσ vs hv
  refine calls_of_wp hf hb ?_
  have hTR : TR c (args ++ List.replicate (fn.ntmps - args.length) (.tup [])) { tmps := vs.toArray ++ Array.replicate (fn.ntmps - vs.toArray.size) undef, defers := [] } := by
    have hl : vs.toArray.size = args.length := by simpa using hv.1
    have he : vs.toArray ++ Array.replicate (fn.ntmps - vs.toArray.size) undef = (vs ++ List.replicate (fn.ntmps - args.length) undef).toArray := by
      rw [hl]; apply Array.ext'; simp
    have hvl : VL c (args ++ List.replicate (fn.ntmps - args.length) (.tup [])) (vs ++ List.replicate (fn.ntmps - args.length) undef) := by
      refine hv.append ⟨by simp, fun j x u hx hu => ?_⟩
      have h1 := List.eq_of_mem_replicate (List.mem_of_getElem? hx)
      have h2 := List.eq_of_mem_replicate (List.mem_of_getElem? hu)
      subst h1; subst h2; exact V_undef
    refine ⟨rfl, by simp only [he]; simpa using hvl.1, fun i x hx => ?_⟩
    have hlt : i < (vs ++ List.replicate (fn.ntmps - args.length) undef).length := by rw [hvl.1]; exact (List.getElem?_eq_some_iff.1 hx).1
    refine ⟨(vs ++ List.replicate (fn.ntmps - args.length) undef)[i], ?_, hvl.2 i x _ hx (List.getElem?_eq_getElem hlt)⟩
    simp only [he]
    simp [List.getElem?_eq_getElem hlt]
  refine wp_mono (h c hc hσ _ hTR) (fun e a' w' hh => ?_)
  obtain ⟨ts', c', rfl, h2, h3, h4, hee, x, hx, hR⟩ := hh
  obtain ⟨v, hr, hvv⟩ := results_run hT h2 h4 hx
  rcases hee with rfl | rfl
  · exact ⟨h4.defers, v, hr, v, x, c', rfl, rfl, h2, h3, hvv, hR⟩
  · exact ⟨h4.defers, v, hr, v, x, c', rfl, rfl, h2, h3, hvv, hR⟩

/-- A row that is written no more is told by its elements. -/
theorem V.frozen {c : Cf} (hok : Ok P c) {t off len m : Nat} {v : Value} {ob : AObj} (hv : V c (.sl t off len m) v) (hob : c.σ.get t = some ob) (hm : ob.els.length = m) (hfit : off + len ≤ m) (hZ : c.Z (c.μ t).blk) : V c (.imm ((ob.els.drop off).take len)) v := by
  have hrw : ob.own.isSome = true := by
    cases hh : ob.own with
    | some b => rfl
    | none => rcases (hok.obj t ob hob).nrow hh with ⟨_, _, _, _, _, _, _, _, _, hz, _⟩ | ⟨_, _, _, _, _, _, hz, _⟩ <;> exact absurd hZ hz
  obtain ⟨cur, fr, hcur, _, _, hcs, hcm, hp, _, hle, h1, hes, hcv⟩ := hok.row hob hrw
  have hall : ∀ el ∈ (ob.els.drop off).take len, el.length = (c.μ t).sz := fun el hel => hes el (List.mem_of_mem_drop (List.mem_of_mem_take hel))
  have hsl : sliceD c.σ (.sl t off len m) = some ((ob.els.drop off).take len) := by simp [sliceD, getO, hob, hm, hfit, hrw]
  have hlen : ((ob.els.drop off).take len).length = len := by simp; omega
  have hv' := hv
  cases hv with
  | sl ht hmm hcl h =>
    rename_i ad cp0
    obtain ⟨A, cp, us, hve, hlc, hcp, hul, hcells, hAn, hfr⟩ := slice_reads hok hv' hsl hall
    injection hve with e1 e2 e3
    subst e1; subst e3
    rw [hlen] at hul
    have hG : c.G t m = some (c.μ t) := by rw [← hm]; exact Cf.G_of hob hrw
    have key : V c (.imm ((ob.els.drop off).take len)) (.slice (some ad) ((ob.els.drop off).take len).length cp0) := by
      refine .imm (sz := (c.μ t).sz) (us := us) (by rw [hlen]; exact hcl) hcp hall (by rw [hlen]; exact hul) (fun hne => ?_) (fun e => by cases e) hfr.one (fun i j el x u hi hj hu => ?_)
      · obtain ⟨a2, e, hsp, hs⟩ := hcells hne
        cases e
        refine ⟨ad, rfl, hsp, ?_, hs⟩
        rcases h _ hG with ⟨ha, _⟩ | ⟨hl0, _⟩
        · rw [ha]; exact hZ
        · subst hl0
          rw [Nat.zero_mul] at hul
          exact absurd (List.eq_nil_of_length_eq_zero hul) hne
      · obtain ⟨u', hu', hv'⟩ := hfr.els hall i j el x hi hj
        rw [hu'] at hu; cases hu; exact hv'
    rw [hlen] at key
    exact key

/-- What is told of a value when object t is written no more. -/
inductive FZ (t m : Nat) (els : List (List DV)) : DV → DV → Prop
  | keep (x : DV) : FZ t m els x x
  | sl {off len} (h : off + len ≤ m) : FZ t m els (.sl t off len m) (.imm ((els.drop off).take len))
  | all {n} (h : n = m) : FZ t m els (.sl t 0 n m) (.imm els)
  | agg {l l' : List DV} (hl : l.length = l'.length) (h : ∀ (j : Nat) (x y : DV), l[j]? = some x → l'[j]? = some y → FZ t m els x y) : FZ t m els (.agg l) (.agg l')
  | tup {l l' : List DV} (hl : l.length = l'.length) (h : ∀ (j : Nat) (x y : DV), l[j]? = some x → l'[j]? = some y → FZ t m els x y) : FZ t m els (.tup l) (.tup l')
theorem FZ.v {c : Cf} (hok : Ok P c) {t m : Nat} {ob : AObj} (hob : c.σ.get t = some ob) (hm : ob.els.length = m) (hZ : c.Z (c.μ t).blk) {x y : DV} (h : FZ t m ob.els x y) : ∀ {v : Value}, V c x v → V c y v := by
  induction h with
  | keep x => exact fun h => h
  | sl hfit => exact fun hv => V.frozen hok hv hob hm hfit hZ
  | all hn =>
    intro v hv
    subst hn
    have := V.frozen hok hv hob hm (by omega) hZ
    rw [List.drop_zero, List.take_of_length_le (by omega)] at this
    exact this
  | agg hl h ih =>
    intro v hv
    cases hv with
    | agg hl2 hv2 =>
      refine .agg (by rw [hl2, hl]) (fun j x u hx hu => ?_)
      rename_i l l' us
      have hlt : j < l.length := by rw [hl]; exact (List.getElem?_eq_some_iff.1 hx).1
      exact ih j _ x (List.getElem?_eq_getElem hlt) hx (hv2 j _ u (List.getElem?_eq_getElem hlt) hu)
  | tup hl h ih =>
    intro v hv
    cases hv with
    | tup hl2 hv2 =>
      refine .tup (by rw [hl2, hl]) (fun j x u hx hu => ?_)
      rename_i l l' us
      have hlt : j < l.length := by rw [hl]; exact (List.getElem?_eq_some_iff.1 hx).1
      exact ih j _ x (List.getElem?_eq_getElem hlt) hx (hv2 j _ u (List.getElem?_eq_getElem hlt) hu)

/-- A call whose answer's row is told by its elements from now on. -/
theorem ACalls.freeze {f : FuncId} {args : List DV} {R R' : DV → Heap → Prop} (h : ACalls P f args σ R)
    (hr : ∀ x σ', R x σ' → ∃ t ob y, σ'.get t = some ob ∧ ob.own.isSome = true ∧ FZ t ob.els.length ob.els x y ∧ R' y (σ'.set t { ob with own := false })) : ACalls P f args σ R' := by
  refine h.retell (fun c x v hok hv hR => ?_)
  obtain ⟨t, ob, y, hob, hrw, hfz, hR'⟩ := hr x c.σ hR
  obtain ⟨h1, h2⟩ := Cm.freeze hok hob hrw
  have ht := Heap.lt hob
  refine ⟨y, { c with σ := c.σ.set t { ob with own := false }, Z := fun b => c.Z b ∨ b = (c.μ t).blk }, rfl, h1, h2, ?_, hR'⟩
  have hv' := hv.ev h2
  exact FZ.v h1 (ob := { ob with own := false }) (Heap.get_set ht) rfl (.inr rfl) hfz hv'
end
end Go.Proofs.Ytdkhlhfdjggbpaa.Cm
