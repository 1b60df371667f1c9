import Derived.Test.YtdkhlhfdjggbpaaCmBase
set_option linter.unusedVariables false
set_option linter.unusedSimpArgs false
namespace Go.Proofs.Ytdkhlhfdjggbpaa.Cm
open Go.RowKit

/-- A constant as a told value. -/
def dvOf : Value → Option DV
  | .agg cs => if cs.toList.all plain then some (.agg (cs.toList.map .sc)) else none
  | .tuple cs => if cs.toList.all plain then some (.tup (cs.toList.map .sc)) else none
  | .func f a b => if a.toList.all plain && b.toList.all plain then some (.fn f (a.toList.map .sc) (b.toList.map .sc)) else none
  | v => if plain v then some (.sc v) else none

theorem V_map {c : Cf} (l : List Value) (h : l.all plain = true) (j : Nat) (x : DV) (u : Value) (hx : (l.map DV.sc)[j]? = some x) (hu : l[j]? = some u) : V c x u := by
  rw [List.getElem?_map, hu] at hx
  simp at hx
  subst hx
  exact .sc (List.all_eq_true.1 h u (List.mem_of_getElem? hu))

theorem dvOf_V {c : Cf} {v : Value} {x : DV} (h : dvOf v = some x) : V c x v := by
  have hs : ∀ v, (if plain v = true then some (DV.sc v) else none) = some x → V c x v := fun v hv => by
    split at hv
    · cases hv; exact .sc (by assumption)
    · cases hv
  cases v <;> first | exact hs _ h | skip
  · rename_i f a b
    simp only [dvOf] at h
    split at h
    · rename_i hp
      cases h
      rw [Bool.and_eq_true] at hp
      have := V.fn (c := c) (f := f) (l1 := a.toList.map .sc) (us1 := a.toList) (l2 := b.toList.map .sc) (us2 := b.toList) (by simp) (by simp) (V_map _ hp.1) (V_map _ hp.2)
      simpa using this
    · cases h
  · rename_i cs
    simp only [dvOf] at h
    split at h
    · rename_i hp
      cases h
      have := V.agg (c := c) (l := cs.toList.map .sc) (us := cs.toList) (by simp) (V_map _ hp)
      simpa using this
    · cases h
  · rename_i cs
    simp only [dvOf] at h
    split at h
    · rename_i hp
      cases h
      have := V.tup (c := c) (l := cs.toList.map .sc) (us := cs.toList) (by simp) (V_map _ hp)
      simpa using this
    · cases h

/-- An operand's told value. -/
def eval (ts : List DV) : Operand → Option DV
  | .tmp t => ts[t]?
  | .const v => dvOf v
  | .func f => some (.fn (.func f) [] [])
  | .global _ => none

structure TR (c : Cf) (ts : List DV) (a : Act) : Prop where
  defers : a.defers = []
  size : a.tmps.size = ts.length
  at_ : ∀ (i : Nat) (x : DV), ts[i]? = some x → ∃ v, a.tmps[i]? = some v ∧ V c x v

theorem TR.eval {c : Cf} {ts : List DV} {a : Act} (h : TR c ts a) {x : Operand} {d : DV} (hx : eval ts x = some d) : V c d (a.eval x) := by
  cases x with
  | tmp t =>
    obtain ⟨v, hv, hvv⟩ := h.at_ t d hx
    have : a.eval (.tmp t) = v := by simp [Act.eval, Array.getD_eq_getD_getElem?, hv]
    rw [this]; exact hvv
  | const v => exact dvOf_V hx
  | func f =>
    simp only [Cm.eval, Option.some.injEq] at hx
    subst hx
    exact V.fn (l1 := []) (us1 := []) (l2 := []) (us2 := []) rfl rfl (by simp) (by simp)
  | global g => simp [Cm.eval] at hx

theorem TR.ev {c c' : Cf} {ts : List DV} {a : Act} (h : TR c ts a) (he : Ev c c') : TR c' ts a :=
  ⟨h.defers, h.size, fun i x hx => let ⟨v, hv, hvv⟩ := h.at_ i x hx; ⟨v, hv, hvv.ev he⟩⟩

def putD (ts : List DV) (dst : Option Tmp) (x : DV) : List DV := match dst with | some d => ts.set d x | none => ts

theorem TR.put {c : Cf} {ts : List DV} {a : Act} (h : TR c ts a) (dst : Option Tmp) {x : DV} {v : Value} (hv : V c x v) : TR c (putD ts dst x) (a.put dst v) := by
  cases dst with
  | none => exact h
  | some d =>
    refine ⟨h.defers, by simp [Act.put, putD, h.size], fun i y hy => ?_⟩
    simp only [putD] at hy
    simp only [Act.put]
    by_cases hid : d = i
    · subst hid
      rw [List.getElem?_set] at hy
      simp only [if_true] at hy
      split at hy
      · rename_i hlt
        cases hy
        exact ⟨v, by rw [Array.getElem?_setIfInBounds]; simp [h.size, hlt], hv⟩
      · cases hy
    · rw [List.getElem?_set_ne hid] at hy
      obtain ⟨u, hu, hvu⟩ := h.at_ i y hy
      exact ⟨u, by rw [Array.getElem?_setIfInBounds_ne hid]; exact hu, hvu⟩

/-- One operation: whatever it leaves, K holds of it. -/
def AOp (P : Program) (o : Oper) (ts : List DV) (σ : Heap) (K : DV → Heap → Prop) : Prop :=
  ∀ (c : Cf), Ok P c → c.σ = σ → ∀ a, TR c ts a → ∀ (next : Act → World → Prop) (Q : Exit → Act → World → Prop),
    (∀ v x c', Ok P c' → Ev c c' → V c' x v → K x c'.σ → next (a.put o.dst v) c'.w) → o.wp P a c.w next Q

theorem AOp.run {P : Program} {o : Oper} {ts : List DV} {σ : Heap} {K : DV → Heap → Prop}
    (h : ∀ (c : Cf), Ok P c → c.σ = σ → ∀ a, TR c ts a → ∃ v x c', (execOp a.eval o).run P c.w = .ok (.value v) c'.w ∧ Ok P c' ∧ Ev c c' ∧ V c' x v ∧ K x c'.σ) : AOp P o ts σ K := by
  intro c hc hσ a hT next Q hn
  obtain ⟨v, x, c', hr, h1, h2, h3, h4⟩ := h c hc hσ a hT
  unfold Oper.wp
  rw [hr]
  exact hn v x c' h1 h2 h3 h4

/-- A value that is told and a world that stays. -/
theorem AOp.val {P : Program} {o : Oper} {ts : List DV} {σ : Heap} {K : DV → Heap → Prop} {x : DV}
    (h : ∀ (c : Cf), Ok P c → c.σ = σ → ∀ a, TR c ts a → ∃ v, (execOp a.eval o).run P c.w = .ok (.value v) c.w ∧ V c x v) (hK : K x σ) : AOp P o ts σ K := by
  refine AOp.run (fun c hc hσ a hT => ?_)
  obtain ⟨v, hr, hv⟩ := h c hc hσ a hT
  exact ⟨v, x, c, hr, hc, Ev.refl c, hv, by rw [hσ]; exact hK⟩

theorem AOp.mono {P : Program} {o : Oper} {ts : List DV} {σ : Heap} {K K' : DV → Heap → Prop} (h : AOp P o ts σ K) (hk : ∀ x σ', K x σ' → K' x σ') : AOp P o ts σ K' :=
  fun c hc hσ a hT next Q hn => h c hc hσ a hT next Q (fun v x c' h1 h2 h3 h4 => hn v x c' h1 h2 h3 (hk _ _ h4))

/-- What a guard says. -/
def gval (ops : Array Oper) (ts : List DV) (j : Nat) : Option (Option Bool) :=
  match ((ops[j]?).bind (·.dst)).bind (ts[·]?) with
  | some (.sc (.bool b)) => some (some b)
  | some (.tup []) => some none
  | _ => none

theorem gval_yields {c : Cf} {ops : Array Oper} {ts : List DV} {a : Act} (h : TR c ts a) {j : Nat} {b : Option Bool} (hg : gval ops ts j = some b) : yielded ops a.tmps j = b := by
  unfold gval at hg
  unfold yielded
  cases hd : (ops[j]?).bind (·.dst) with
  | none => rw [hd] at hg; simp at hg
  | some d =>
    rw [hd] at hg
    simp only [Option.bind_some] at hg ⊢
    cases hx : ts[d]? with
    | none => rw [hx] at hg; simp at hg
    | some x =>
      rw [hx] at hg
      obtain ⟨v, hv, hvv⟩ := h.at_ d x hx
      rw [hv]
      split at hg
      · rename_i he
        cases he
        cases hg
        cases hvv with
        | sc _ => rfl
      · rename_i he
        cases he
        cases hg
        cases hvv with
        | tup _ _ => rfl
      · cases hg

/-- A list of operations, one behind the other. -/
def AOps (P : Program) (ops : Array Oper) : List Nat → List DV → Heap → (List DV → Heap → Prop) → Prop
  | [], ts, σ, K => K ts σ
  | i :: rest, ts, σ, K => ∃ o, ops[i]? = some o ∧
      match o.guard with
      | none => AOp P o ts σ (fun x σ' => AOps P ops rest (putD ts o.dst x) σ' K)
      | some (j, want) => ∃ b, gval ops ts j = some b ∧ (b = some want → AOp P o ts σ (fun x σ' => AOps P ops rest (putD ts o.dst x) σ' K)) ∧ (b ≠ some want → AOps P ops rest (putD ts o.dst (.tup [])) σ K)

theorem V_undef {c : Cf} : V c (.tup []) undef := V.tup (l := []) (us := []) rfl (by simp)

theorem AOps.sound {P : Program} {ops : Array Oper} {Q : Exit → Act → World → Prop} : ∀ (l : List Nat) (ts : List DV) (σ : Heap) (K : List DV → Heap → Prop) (c : Cf) (a : Act), AOps P ops l ts σ K → Ok P c → c.σ = σ → TR c ts a →
    (∀ ts' c' a', Ok P c' → Ev c c' → TR c' ts' a' → K ts' c'.σ → Q .normal a' c'.w) → wpOps P ops Q l a c.w
  | [], ts, σ, K, c, a, h, hc, hσ, hT, hQ => hQ ts c a hc (Ev.refl c) hT (by rw [hσ]; exact h)
  | i :: rest, ts, σ, K, c, a, h, hc, hσ, hT, hQ => by
    obtain ⟨o, ho, h⟩ := h
    unfold wpOps
    rw [ho]
    have go : AOp P o ts σ (fun x σ' => AOps P ops rest (putD ts o.dst x) σ' K) → o.wp P a c.w (wpOps P ops Q rest) Q := fun h =>
      h c hc hσ a hT _ _ (fun v x c' h1 h2 h3 h4 => AOps.sound rest _ _ K c' _ h4 h1 rfl ((hT.ev h2).put o.dst h3) (fun ts' c2 a' k1 k2 k3 k4 => hQ ts' c2 a' k1 (h2.trans k2) k3 k4))
    cases hgd : o.guard with
    | none =>
      rw [hgd] at h
      have : Region.wanted o (yielded ops a.tmps) = true := by simp [Region.wanted, hgd]
      simp only [this, if_true]
      exact .inl (go h)
    | some g =>
      obtain ⟨j, want⟩ := g
      rw [hgd] at h
      obtain ⟨b, hb, h1, h2⟩ := h
      have hy := gval_yields hT hb
      have hw : Region.wanted o (yielded ops a.tmps) = (b == some want) := by simp [Region.wanted, hgd, hy]
      by_cases hbw : b = some want
      · have : Region.wanted o (yielded ops a.tmps) = true := by rw [hw, hbw]; simp
        simp only [this, if_true]
        exact .inl (go (h1 hbw))
      · have : Region.wanted o (yielded ops a.tmps) = false := by rw [hw]; simpa using hbw
        simp only [this]
        exact AOps.sound rest _ _ K c _ (h2 hbw) hc hσ (hT.put o.dst V_undef) hQ

/-- Code. -/
def AW (P : Program) (code : Code) (ts : List DV) (σ : Heap) (Q : Exit → List DV → Heap → Prop) : Prop :=
  ∀ (c : Cf), Ok P c → c.σ = σ → ∀ a, TR c ts a → code.wp P (fun e a' w' => ∃ ts' c', c'.w = w' ∧ Ok P c' ∧ Ev c c' ∧ TR c' ts' a' ∧ Q e ts' c'.σ) a c.w

section
variable {P : Program} {ts : List DV} {σ : Heap} {Q : Exit → List DV → Heap → Prop}
theorem AW.mono {code : Code} {Q' : Exit → List DV → Heap → Prop} (h : AW P code ts σ Q) (hq : ∀ e ts σ, Q e ts σ → Q' e ts σ) : AW P code ts σ Q' :=
  fun c hc hσ a hT => wp_mono (h c hc hσ a hT) (fun e a w ⟨ts', c', h1, h2, h3, h4, h5⟩ => ⟨ts', c', h1, h2, h3, h4, hq _ _ _ h5⟩)
def thenA (K : List DV → Heap → Prop) (Q : Exit → List DV → Heap → Prop) : Exit → List DV → Heap → Prop
  | .normal, ts, σ => K ts σ
  | e, ts, σ => Q e ts σ
theorem AW.seq {x y : Code} (h : AW P x ts σ (thenA (fun ts' σ' => AW P y ts' σ' Q) Q)) : AW P (.seq x y) ts σ Q := by
  intro c hc hσ a hT
  refine wp_seq (wp_mono (h c hc hσ a hT) (fun e a' w' hh => ?_))
  obtain ⟨ts', c', rfl, h2, h3, h4, h5⟩ := hh
  cases e with
  | normal => exact wp_mono (h5 c' h2 rfl a' h4) (fun e2 a2 w2 ⟨ts2, c2, k1, k2, k3, k4, k5⟩ => ⟨ts2, c2, k1, k2, h3.trans k3, k4, k5⟩)
  | _ => exact ⟨ts', c', rfl, h2, h3, h4, h5⟩
theorem AW.skip (h : Q .normal ts σ) : AW P .skip ts σ Q := fun c hc hσ a hT => wp_skip ⟨ts, c, rfl, hc, Ev.refl c, hT, by rw [hσ]; exact h⟩
theorem AW.ret (h : Q .ret ts σ) : AW P .ret ts σ Q := fun c hc hσ a hT => wp_ret ⟨ts, c, rfl, hc, Ev.refl c, hT, by rw [hσ]; exact h⟩
theorem AW.exit {id : Nat} (h : Q (.exit id) ts σ) : AW P (.exit id) ts σ Q := fun c hc hσ a hT => wp_exit ⟨ts, c, rfl, hc, Ev.refl c, hT, by rw [hσ]; exact h⟩
theorem AW.cond {x : Operand} {y z : Code} {b : Bool} (hb : Cm.eval ts x = some (.sc (.bool b))) (h1 : b = true → AW P y ts σ Q) (h2 : b = false → AW P z ts σ Q) : AW P (.cond x y z) ts σ Q := by
  intro c hc hσ a hT
  have hv := hT.eval hb
  have he : a.eval x = .bool b := by
    generalize a.eval x = v at hv
    cases hv with
    | sc _ => rfl
  exact wp_cond_split he (fun h => h1 h c hc hσ a hT) (fun h => h2 h c hc hσ a hT)
def blockA (id : Nat) (Q : Exit → List DV → Heap → Prop) : Exit → List DV → Heap → Prop
  | .exit id', ts, σ => if id' = id then Q .normal ts σ else Q (.exit id') ts σ
  | e, ts, σ => Q e ts σ
theorem AW.block {id : Nat} {x : Code} (h : AW P x ts σ (blockA id Q)) : AW P (.block id x) ts σ Q := by
  intro c hc hσ a hT
  refine wp_block (wp_mono (h c hc hσ a hT) (fun e a' w' hh => ?_))
  obtain ⟨ts', c', rfl, h2, h3, h4, h5⟩ := hh
  cases e with
  | exit id' =>
    simp only [Exit.inBlock, blockA] at h5 ⊢
    split at h5
    · rename_i h; rw [if_pos h]; exact ⟨ts', c', rfl, h2, h3, h4, h5⟩
    · rename_i h; rw [if_neg h]; exact ⟨ts', c', rfl, h2, h3, h4, h5⟩
  | _ => exact ⟨ts', c', rfl, h2, h3, h4, h5⟩
theorem AW.region {id : Nat} {ops : Array Oper} (h : AOps P ops (List.range ops.size) ts σ (Q .normal)) : AW P (.region id ops false) ts σ Q := by
  intro c hc hσ a hT
  refine wp_region (AOps.sound _ ts σ _ c a h hc hσ hT (fun ts' c' a' h1 h2 h3 h4 => ⟨ts', c', rfl, h1, h2, h3, h4⟩))
/-- A loop: a relation with a number that falls. -/
theorem AW.loop {x : Code} (I : Nat → List DV → Heap → Prop) {m : Nat} (h0 : I m ts σ)
    (hs : ∀ m ts σ, I m ts σ → AW P x ts σ (thenA (fun ts' σ' => ∃ m', m' < m ∧ I m' ts' σ') Q)) : AW P (.loop x) ts σ Q := by
  have key : ∀ (N : Nat) (ts : List DV) (σ : Heap) (c0 c : Cf) (a : Act), (∃ m, m < N ∧ I m ts σ) → Ok P c → Ev c0 c → c.σ = σ → TR c ts a → Code.rounds P x (fun e a' w' => ∃ ts' c', c'.w = w' ∧ Ok P c' ∧ Ev c0 c' ∧ TR c' ts' a' ∧ Q e ts' c'.σ) N a c.w := by
    intro N
    induction N with
    | zero => rintro ts σ c0 c a ⟨m, hm, _⟩; omega
    | succ N ih =>
      rintro ts σ c0 c a ⟨m, hm, hI⟩ hc he hσ hT
      rw [rounds_succ]
      refine wp_mono (hs m ts σ hI c hc hσ a hT) (fun e a' w' hh => ?_)
      obtain ⟨ts', c', rfl, h2, h3, h4, h5⟩ := hh
      cases e with
      | normal =>
        obtain ⟨m', hm', hI'⟩ := h5
        exact ih ts' c'.σ c0 c' a' ⟨m', by omega, hI'⟩ h2 (he.trans h3) rfl h4
      | _ => exact ⟨ts', c', rfl, h2, he.trans h3, h4, h5⟩
  intro c hc hσ a hT
  exact wp_loop_rounds (m + 1) (key (m + 1) ts σ c c a ⟨m, by omega, h0⟩ hc (Ev.refl c) hσ hT)
end
end Go.Proofs.Ytdkhlhfdjggbpaa.Cm
