import Derived.Test.YtdkhlhfdjggbpaaCmRun
import Derived.Test.YtdkhlhfdjggbpaaWInvWords
set_option linter.unusedVariables false
set_option linter.unusedSimpArgs false
namespace Go.Proofs.Ytdkhlhfdjggbpaa.Cm
open Go.RowKit Go.Proofs.YtdkhlhfdjggbpaaW.PrintLast

section
variable {P : Program} {T : Tab} {o : Oper} {ts : List DV} {σ : Heap} {K : DV → Heap → Prop}

inductive OK where | core | read | pure
  deriving DecidableEq
def kindOf (T : Tab) : Op → OK
  | .move _ | .assign _ | .pick .. | .extract .. | .binOp .. | .unOp .. | .fieldAddr .. | .field .. | .index .. | .build .. | .nilCheck _ => .pure
  | .load .. | .indexAddr .. | .slice .. => .read
  | .convert src dst _ => (match T src, T dst with
    | some _, some ⟨.int _, _, _, _⟩ => .pure
    | some ⟨.slice _, _, _, _⟩, some ⟨.string, _, _, _⟩ => .read
    | _, _ => .core)
  | .call c => (match c.callee with | .builtin .len => .pure | _ => .core)
  | _ => .core

theorem withσ_any {d : Option DV} {r : DV × Heap} (h : withσ σ d = some r) (σ' : Heap) : withσ σ' d = some (r.1, σ') := by
  cases d with
  | none => cases h
  | some d => cases h; rfl

theorem mark_none {src dst : TypeId} {x : Operand} {d : DV} (hk : kindOf T (.convert src dst x) ≠ .core) : markD T σ src dst d = none := by
  unfold markD
  split
  · rename_i e s0 b0 z0 hty
    split
    · rename_i hsd
      subst hsd
      simp only [kindOf, hty, ne_eq, not_true_eq_false] at hk
    · rfl
  · rfl
theorem aop_same {r : DV × Heap} (hk : kindOf T o.op ≠ .core) (h : aop T o ts σ = some r) : r.2 = σ := by
  unfold aop at h
  cases ho : o.op <;> rw [ho] at h hk <;> simp only [kindOf, ne_eq, not_true_eq_false, reduceCtorEq, not_false_eq_true] at hk h <;> try contradiction
  all_goals first
    | exact (withσ_some h).2
    | (split at h <;> first | exact (withσ_some h).2 | (cases h; rfl) | (split at h <;> first | (cases h; rfl) | (split at h <;> first | (cases h; rfl) | cases h) | cases h) | cases h)
    | skip
  case convert src dst x =>
    split at h
    · rw [mark_none (x := x) hk] at h; exact (withσ_some h).2
    · cases h
  · rename_i a b c d e
    cases e with
    | none =>
      simp only at h
      split at h
      · exact (withσ_some h).2
      · cases h
    | some _ =>
      simp only at h
      split at h
      · exact (withσ_some h).2
      · cases h
  · rename_i c
    split at hk
    · rename_i hc
      simp only [callD, hc] at h
      split at h
      · split at h
        · split at h
          · cases h; rfl
          · cases h
        · cases h
      · cases h
    · exact absurd rfl hk

theorem aop_pure {r : DV × Heap} (hk : kindOf T o.op = .pure) (h : aop T o ts σ = some r) (σ' : Heap) : aop T o ts σ' = some (r.1, σ') := by
  unfold aop at h ⊢
  cases ho : o.op <;> rw [ho] at h hk <;> simp only [kindOf, reduceCtorEq] at hk h ⊢ <;> try contradiction
  all_goals first
    | exact withσ_any h σ'
    | (split at h <;> first | exact withσ_any h σ' | (cases h; rfl) | (split at h <;> first | (cases h; rfl) | (split at h <;> first | (cases h; rfl) | cases h) | cases h) | cases h)
    | skip
  · rename_i src dst x
    have hkc : kindOf T (.convert src dst x) ≠ .core := by
      intro e
      have hk' : kindOf T (.convert src dst x) = .pure := hk
      rw [e] at hk'; cases hk'
    split at hk
    · rename_i si k s1 b1 z1 h1 h2
      split at h
      · rename_i d hd
        rw [mark_none hkc] at h ⊢
        simp only at h ⊢
        have hc : convD T σ src dst d = convD T σ' src dst d := by unfold convD; rw [h1, h2]
        rw [hc] at h
        exact withσ_any h σ'
      · cases h
    · cases hk
    · cases hk
  · rename_i c
    split at hk
    · rename_i hc
      simp only [callD, hc] at h ⊢
      split at h
      · split at h
        · split at h
          · cases h; rfl
          · cases h
        · cases h
      · cases h
    · cases hk

/-- The slots that an operation reads. -/
def tmpsOf : List Operand → List Tmp
  | [] => []
  | .tmp t :: r => t :: tmpsOf r
  | _ :: r => tmpsOf r
def dstOf (ops : Array Oper) (i : Nat) : Option Tmp := (ops[i]?).bind (·.dst)
def slotsOf (ops : Array Oper) (o : Oper) : List Tmp :=
  (match o.guard with | some (j, _) => (match dstOf ops j with | some d => [d] | none => []) | none => []) ++ tmpsOf o.op.operands.toList
theorem mem_tmpsOf {t : Tmp} : ∀ {l : List Operand}, Operand.tmp t ∈ l → t ∈ tmpsOf l
  | x :: r, h => by
    rcases List.mem_cons.1 h with rfl | h
    · simp [tmpsOf]
    · have := mem_tmpsOf h
      cases x <;> simp [tmpsOf, this]
def Agree (ops : Array Oper) (o : Oper) (ts ts' : List DV) : Prop := ∀ s ∈ slotsOf ops o, ts'[s]? = ts[s]?
theorem Agree.eval {ops : Array Oper} {ts' : List DV} (h : Agree ops o ts ts') {x : Operand} (hx : x ∈ o.op.operands.toList) : Cm.eval ts' x = Cm.eval ts x := by
  cases x with
  | tmp t => exact h t (by unfold slotsOf; exact List.mem_append_right _ (mem_tmpsOf hx))
  | _ => rfl
theorem Agree.gon {ops : Array Oper} {ts' : List DV} (h : Agree ops o ts ts') : gon ops ts' o.guard = gon ops ts o.guard := by
  cases hg : o.guard with
  | none => rfl
  | some g =>
    obtain ⟨j, want⟩ := g
    simp only [Cm.gon]
    have : gval ops ts' j = gval ops ts j := by
      unfold gval
      cases hd : (ops[j]?).bind (·.dst) with
      | none => rfl
      | some d =>
        simp only [Option.bind_some]
        rw [h d (by unfold slotsOf dstOf; rw [hg]; simp only [hd]; exact List.mem_append_left _ (List.mem_singleton.2 rfl))]
    rw [this]

theorem evalParts_congr {ts ts' : List DV} : ∀ {l : List (Nat × Operand)}, (∀ x ∈ l.map (·.2), Cm.eval ts' x = Cm.eval ts x) → evalParts ts' l = evalParts ts l
  | [], _ => rfl
  | (i, x) :: r, h => by
    simp only [evalParts]
    rw [h x (by simp), evalParts_congr (fun y hy => h y (by simp at hy ⊢; exact .inr hy))]
theorem evalL_congr {ts ts' : List DV} : ∀ {l : List Operand}, (∀ x ∈ l, Cm.eval ts' x = Cm.eval ts x) → evalL ts' l = evalL ts l
  | [], _ => rfl
  | x :: r, h => by
    simp only [evalL]
    rw [h x (by simp), evalL_congr (fun y hy => h y (List.mem_cons_of_mem _ hy))]
theorem evalI_congr {ts ts' : List DV} {x : Option Operand} (h : ∀ y, x = some y → Cm.eval ts' y = Cm.eval ts y) : evalI ts' x = evalI ts x := by
  cases x with
  | none => rfl
  | some y => simp only [evalI]; rw [h y rfl]

theorem aop_congr {ts' : List DV} (h : ∀ x ∈ o.op.operands.toList, Cm.eval ts' x = Cm.eval ts x) : aop T o ts' σ = aop T o ts σ := by
  unfold aop
  cases ho : o.op with
  | move x => rw [ho] at h; simp only; rw [h x (by simp [Op.operands])]
  | assign x => rw [ho] at h; simp only; rw [h x (by simp [Op.operands])]
  | pick x y z => rw [ho] at h; simp only; rw [h x (by simp [Op.operands]), h y (by simp [Op.operands]), h z (by simp [Op.operands])]
  | extract x i => rw [ho] at h; simp only; rw [h x (by simp [Op.operands])]
  | binOp op ty x y yt => rw [ho] at h; simp only; rw [h x (by simp [Op.operands]), h y (by simp [Op.operands])]
  | unOp op ty x => rw [ho] at h; simp only; rw [h x (by simp [Op.operands])]
  | load ty x => rw [ho] at h; simp only; rw [h x (by simp [Op.operands])]
  | store ty x y => rw [ho] at h; simp only; rw [h x (by simp [Op.operands]), h y (by simp [Op.operands])]
  | fieldAddr s x f => rw [ho] at h; simp only; rw [h x (by simp [Op.operands])]
  | field s x f => rw [ho] at h; simp only; rw [h x (by simp [Op.operands])]
  | indexAddr ty x y => rw [ho] at h; simp only; rw [h x (by simp [Op.operands]), h y (by simp [Op.operands])]
  | index ty x y => rw [ho] at h; simp only; rw [h x (by simp [Op.operands]), h y (by simp [Op.operands])]
  | box e x => rw [ho] at h; simp only; rw [h x (by simp [Op.operands])]
  | build ty ps => rw [ho] at h; simp only; rw [evalParts_congr (fun x hx => h x (by simpa [Op.operands] using hx))]
  | buildSlice ty n ps => rw [ho] at h; simp only; rw [evalParts_congr (fun x hx => h x (by simpa [Op.operands] using hx))]
  | makeSlice ty x y => rw [ho] at h; simp only; rw [h x (by simp [Op.operands]), h y (by simp [Op.operands])]
  | convert src dst x => rw [ho] at h; simp only; rw [h x (by simp [Op.operands])]
  | nilCheck x => rw [ho] at h; simp only; rw [h x (by simp [Op.operands])]
  | slice ty x lo hi mx =>
    rw [ho] at h
    cases mx with
    | some mo =>
      simp only
      rw [h x (by simp [Op.operands]), h mo (by simp [Op.operands]), evalI_congr (x := lo) (fun y hy => h y (by subst hy; simp [Op.operands])), evalI_congr (x := hi) (fun y hy => h y (by subst hy; simp [Op.operands]))]
    | none =>
      simp only
      rw [h x (by simp [Op.operands]), evalI_congr (x := lo) (fun y hy => h y (by subst hy; simp [Op.operands])), evalI_congr (x := hi) (fun y hy => h y (by subst hy; simp [Op.operands]))]
  | makeFunc fn first cap =>
    rw [ho] at h
    cases fn with
    | func f =>
      simp only
      rw [evalL_congr (l := first.toList) (fun x hx => h x (by simp [Op.operands] at hx ⊢; exact .inl hx)), evalL_congr (l := cap.toList) (fun x hx => h x (by simp [Op.operands] at hx ⊢; exact .inr hx))]
    | _ => rfl
  | call c =>
    rw [ho] at h
    obtain ⟨cal, ⟨as⟩, ⟨tys⟩⟩ := c
    have has : ∀ x ∈ as, Cm.eval ts' x = Cm.eval ts x := fun x hx => h x (by simp [Op.operands, Call.operands, hx])
    simp only [callD]
    split
    · split
      · rename_i _ _ x ty
        rw [has x (by simp)]
      · rfl
    · split
      · rename_i _ _ s x ty ty2
        rw [has s (by simp), has x (by simp)]
      · rfl
    · split
      · rename_i _ _ x ty
        rw [has x (by simp)]
      · rfl
    · rfl
  | _ => rfl

/-- One operation, out of any slots that tell its operands so. -/
def AOpA (P : Program) (o : Oper) (ts : List DV) (σ : Heap) (K : DV → Heap → Prop) : Prop := ∀ ts', (∀ x ∈ o.op.operands.toList, Cm.eval ts' x = Cm.eval ts x) → AOp P o ts' σ K
theorem AOpA.reckoned (hT : TOk P T) {r : DV × Heap} (h : aop T o ts σ = some r) (hK : K r.1 r.2) : AOpA P o ts σ K := fun ts' he => aop_sound hT ((aop_congr he).trans h) hK
theorem AOpA.call {cal : Operand} {as : Array Operand} {at_ : Array TypeId} {f : FuncId} {first cap ds : List DV} (ho : o.op = .call { callee := .value cal, args := as, argTypes := at_ }) (hc : Cm.eval ts cal = some (.fn (.func f) first cap)) (hf : FnOk P f)
    (has : evalL ts as.toList = some ds) (h : ACalls P f (first ++ ds ++ cap) σ K) : AOpA P o ts σ K := by
  intro ts' he
  rw [ho] at he
  simp only [Op.operands, Call.operands] at he
  exact AOp.call ho ((he cal (by simp)).trans hc) hf ((evalL_congr (fun x hx => he x (by simp [hx]))).trans has) h

def bitOf (B : List (List Nat)) (i j : Nat) : Bool := ((B[i]?).getD []).contains j
def maskOf : List Nat → Nat
  | [] => 0
  | j :: r => 2 ^ j ||| maskOf r
theorem maskOf_bit {j : Nat} : ∀ {l : List Nat}, j ∈ l → (maskOf l).testBit j = true
  | k :: r, h => by
    rw [maskOf, Nat.testBit_or]
    rcases List.mem_cons.1 h with rfl | h
    · rw [Nat.testBit_two_pow_self]; rfl
    · rw [maskOf_bit h, Bool.or_true]
theorem bit_mask {B : List (List Nat)} {i j : Nat} (h : bitOf B i j = true) : ((B.map maskOf).getD i 0).testBit j = true := by
  unfold bitOf at h
  cases hb : B[i]? with
  | none => rw [hb] at h; simp at h
  | some l =>
    rw [hb] at h
    have : (B.map maskOf).getD i 0 = maskOf l := by simp [List.getD, List.getElem?_map, hb]
    rw [this]
    exact maskOf_bit (List.contains_iff_mem.1 h)
def slotD (ts : List DV) (dst : Option Tmp) : DV := (dst.bind (ts[·]?)).getD (.tup [])

/-- What was read ahead of operation i, and may be read behind it, reads the same behind it. -/
def lateL (T : Tab) (ops : Array Oper) (B : List (List Nat)) (i : Nat) (ts : List DV) (σ' : Heap) : List Nat → Prop
  | [] => True
  | j :: r => (if bitOf B i j = true then True else match ops[j]? with | some oj => aop T oj ts σ' = some (slotD ts oj.dst, σ') | none => False) ∧ lateL T ops B i ts σ' r
theorem lateL_mem {ops : Array Oper} {B : List (List Nat)} {i : Nat} {σ' : Heap} : ∀ {fl : List Nat}, lateL T ops B i ts σ' fl → ∀ j ∈ fl, bitOf B i j = false → ∀ oj, ops[j]? = some oj → aop T oj ts σ' = some (slotD ts oj.dst, σ')
  | k :: r, h, j, hj, hb, oj, hoj => by
    rcases List.mem_cons.1 hj with rfl | hj
    · have h1 := h.1
      rw [if_neg (by rw [hb]; decide), hoj] at h1; exact h1
    · exact lateL_mem h.2 j hj hb oj hoj

/-- A region that draws its order, by one order in which its operations may be taken. -/
def dops (P : Program) (T : Tab) (ops : Array Oper) (B : List (List Nat)) : List Nat → List Nat → List DV → Heap → (List DV → Heap → Prop) → Prop
  | [], _, ts, σ, K => K ts σ
  | i :: rest, fl, ts, σ, K => match ops[i]? with
    | none => False
    | some o => match gon ops ts o.guard with
      | none => False
      | some false => dops P T ops B rest fl (putD ts o.dst (.tup [])) σ K
      | some true => match kindOf T o.op with
        | .core => AOpA P o ts σ (fun x σ' => lateL T ops B i ts σ' fl ∧ dops P T ops B rest fl (putD ts o.dst x) σ' K)
        | .read => (match aop T o ts σ with | some r => dops P T ops B rest (i :: fl) (putD ts o.dst r.1) σ K | none => False)
        | .pure => (match aop T o ts σ with | some r => dops P T ops B rest fl (putD ts o.dst r.1) σ K | none => False)

structure DrawOk (T : Tab) (ops : Array Oper) (sched : List Nat) (B : List (List Nat)) : Prop where
  perm : ∀ i, i < ops.size → i ∈ sched
  lt : ∀ i, i ∈ sched → i < ops.size
  nodup : sched.Nodup
  dst : ∀ i j d, i < ops.size → j < ops.size → dstOf ops i = some d → dstOf ops j = some d → i = j
  topo : ∀ pre i rest, sched = pre ++ i :: rest → ∀ j, j < ops.size → bitOf B i j = true → j ∈ pre
  conf : ∀ i j o d, ops[i]? = some o → j < ops.size → j ≠ i → dstOf ops j = some d → d ∈ slotsOf ops o → bitOf B i j = true ∨ bitOf B j i = true
  confR : ∀ i j o d, ops[i]? = some o → kindOf T o.op = .read → j < ops.size → dstOf ops j = some d → d ∈ slotsOf ops o → bitOf B i j = true
  asap : ∀ pre i rest, sched = pre ++ i :: rest → ∀ c o, c ∈ pre → ops[c]? = some o → kindOf T o.op = .core → bitOf B i c = true

/-- Slot s is filled by one of those that q lets in. -/
def anyDst (ops : Array Oper) (q : Nat → Bool) (s : Nat) : Bool := (List.range ops.size).any fun j => q j && (dstOf ops j == some s)
theorem anyDst_iff {ops : Array Oper} {q : Nat → Bool} {s : Nat} : anyDst ops q s = true ↔ ∃ j, j < ops.size ∧ q j = true ∧ dstOf ops j = some s := by
  simp [anyDst, List.any_eq_true]
def sel (ops : Array Oper) (ts0 ts : List DV) (q : Nat → Bool) : List DV := (List.range ts0.length).map fun s => if anyDst ops q s then (ts[s]?).getD (.tup []) else (ts0[s]?).getD (.tup [])
theorem sel_length {ops : Array Oper} {ts0 ts : List DV} {q : Nat → Bool} : (sel ops ts0 ts q).length = ts0.length := by simp [sel]
theorem sel_get {ops : Array Oper} {ts0 ts : List DV} {q : Nat → Bool} (hl : ts.length = ts0.length) (s : Nat) : (sel ops ts0 ts q)[s]? = if anyDst ops q s then ts[s]? else ts0[s]? := by
  by_cases hs : s < ts0.length
  · simp only [sel, List.getElem?_map, List.getElem?_range hs, Option.map_some]
    split
    · rw [List.getElem?_eq_getElem (by omega)]; rfl
    · rw [List.getElem?_eq_getElem hs]; rfl
  · rw [List.getElem?_eq_none (by rw [sel_length]; omega), List.getElem?_eq_none (by omega), List.getElem?_eq_none (by omega)]; simp

theorem putD_length (dst : Option Tmp) (x : DV) : (putD ts dst x).length = ts.length := by cases dst <;> simp [putD]
theorem putD_other {dst : Option Tmp} {x : DV} {s : Nat} (h : dst ≠ some s) : (putD ts dst x)[s]? = ts[s]? := by
  cases dst with
  | none => rfl
  | some d => simp only [putD]; rw [List.getElem?_set_ne (fun e => h (by rw [e]))]

/-- What is kept of an operation that was taken and may still be to come. -/
def Rec (T : Tab) (ops : Array Oper) (ts0 ts : List DV) (σ : Heap) (before : Nat → Bool) (o : Oper) : Prop :=
  ∃ g, gon ops (sel ops ts0 ts before) o.guard = some g ∧ (g = false → ∀ d, o.dst = some d → d < ts.length → ts[d]? = some (.tup [])) ∧
    (g = true → kindOf T o.op ≠ .core ∧ ∃ x, aop T o (sel ops ts0 ts before) σ = some (x, σ) ∧ ∀ d, o.dst = some d → d < ts.length → ts[d]? = some x)

structure Stage (P : Program) (T : Tab) (ops : Array Oper) (B : List (List Nat)) (ts0 : List DV) (K : List DV → Heap → Prop) (sched pre rest fl : List Nat) (ts : List DV) (σ : Heap) (b : Nat → Bool) : Prop where
  split : sched = pre ++ rest
  go : dops P T ops B rest fl ts σ K
  len : ts.length = ts0.length
  un : ∀ s, anyDst ops (fun j => pre.contains j) s = false → ts[s]? = ts0[s]?
  rest_off : ∀ i ∈ rest, b i = false
  recs : ∀ p i q o, pre = p ++ i :: q → b i = false → ops[i]? = some o → Rec T ops ts0 ts σ (fun j => p.contains j) o
  flok : ∀ p i q o, pre = p ++ i :: q → ops[i]? = some o → kindOf T o.op = .read → gon ops (sel ops ts0 ts (fun j => p.contains j)) o.guard = some true → i ∈ fl


section
variable {ops : Array Oper} {B : List (List Nat)} {ts0 : List DV} {KK : List DV → Heap → Prop} {sched pre rest fl : List Nat} {b : Nat → Bool}

theorem dstOf_eq {i : Nat} {oi : Oper} (h : ops[i]? = some oi) : dstOf ops i = oi.dst := by simp [dstOf, h]

theorem sel_ext {ts ts' : List DV} {q q' : Nat → Bool} (hl : ts.length = ts0.length) (hl' : ts'.length = ts0.length) (h : ∀ s, (if anyDst ops q s then ts[s]? else ts0[s]?) = (if anyDst ops q' s then ts'[s]? else ts0[s]?)) : sel ops ts0 ts q = sel ops ts0 ts' q' :=
  List.ext_getElem? (fun s => by rw [sel_get hl, sel_get hl', h s])

theorem sel_up {ts : List DV} {i : Nat} {oi : Oper} {y : DV} (hl : ts.length = ts0.length) (hoi : ops[i]? = some oi) (hy : ∀ d, oi.dst = some d → d < ts.length → ts[d]? = some y) :
    sel ops ts0 ts (up b i) = putD (sel ops ts0 ts b) oi.dst y := by
  have hin : i < ops.size := (Array.getElem?_eq_some_iff.1 hoi).1
  apply List.ext_getElem?
  intro s
  rw [sel_get hl]
  by_cases hs : oi.dst = some s
  · have ha : anyDst ops (up b i) s = true := anyDst_iff.2 ⟨i, hin, up_self b i, by rw [dstOf_eq hoi]; exact hs⟩
    rw [ha, if_pos rfl, hs]
    simp only [putD]
    by_cases hlt : s < ts.length
    · rw [hy s hs hlt, List.getElem?_set_self (by rw [sel_length]; omega)]
    · rw [List.getElem?_eq_none (by omega), List.getElem?_eq_none (by rw [List.length_set, sel_length]; omega)]
  · rw [putD_other hs, sel_get hl]
    have : anyDst ops (up b i) s = anyDst ops b s := by
      rw [Bool.eq_iff_iff, anyDst_iff, anyDst_iff]
      constructor
      · rintro ⟨j, h1, h2, h3⟩
        have hji : j ≠ i := by intro e; subst e; rw [dstOf_eq hoi] at h3; exact hs h3
        exact ⟨j, h1, by rwa [up_ne hji] at h2, h3⟩
      · rintro ⟨j, h1, h2, h3⟩
        have hji : j ≠ i := by intro e; subst e; rw [dstOf_eq hoi] at h3; exact hs h3
        exact ⟨j, h1, by rw [up_ne hji]; exact h2, h3⟩
    rw [this]

/-- What operation i reads is the same whoever else was taken. -/
theorem sel_agree (hd : DrawOk T ops sched B) {p q : List Nat} {i : Nat} {oi : Oper} {ts : List DV} (hl : ts.length = ts0.length) (hs : sched = p ++ i :: q) (hoi : ops[i]? = some oi) (hbi : b i = false)
    (hon : ∀ j, j < ops.size → bitOf B i j = true → b j = true) (hoff : ∀ d, d < ops.size → bitOf B d i = true → b d = false) : Agree ops oi (sel ops ts0 ts (fun j => p.contains j)) (sel ops ts0 ts b) := by
  intro s hsl
  rw [sel_get hl, sel_get hl]
  have hnd := hd.nodup
  rw [hs] at hnd
  have hip : i ∉ p := fun h => by
    have := (List.nodup_append.1 hnd).2.2 i h i List.mem_cons_self
    exact this rfl
  have key : ∀ j, j < ops.size → dstOf ops j = some s → (b j = true ↔ p.contains j = true) := by
    intro j hj hds
    by_cases hji : j = i
    · subst hji
      simp [hbi, hip]
    · rcases hd.conf i j oi s hoi hj hji hds hsl with h | h
      · have h1 := hon j hj h
        have h2 := hd.topo p i q hs j hj h
        simp [h1, h2]
      · have h1 := hoff j hj h
        have h2 : j ∉ p := fun hjp => by
          obtain ⟨p1, p2, rfl⟩ := List.append_of_mem hjp
          have := hd.topo p1 j (p2 ++ i :: q) (by rw [hs]; simp) i ((Array.getElem?_eq_some_iff.1 hoi).1) h
          exact hip (List.mem_append_left _ this)
        simp [h1, h2]
  have : anyDst ops b s = anyDst ops (fun j => p.contains j) s := by
    rw [Bool.eq_iff_iff, anyDst_iff, anyDst_iff]
    constructor
    · rintro ⟨j, h1, h2, h3⟩; exact ⟨j, h1, (key j h1 h3).1 h2, h3⟩
    · rintro ⟨j, h1, h2, h3⟩; exact ⟨j, h1, (key j h1 h3).2 h2, h3⟩
  rw [this]

theorem Stage.cur {ts : List DV} (h : Stage P T ops B ts0 KK sched pre rest fl ts σ b) : sel ops ts0 ts (fun j => pre.contains j) = ts := by
  apply List.ext_getElem?
  intro s
  rw [sel_get h.len]
  cases ha : anyDst ops (fun j => pre.contains j) s with
  | true => rfl
  | false => rw [h.un s ha]; rfl

theorem Stage.mark {ts : List DV} (h : Stage P T ops B ts0 KK sched pre rest fl ts σ b) {i : Nat} (hi : i ∉ rest) : Stage P T ops B ts0 KK sched pre rest fl ts σ (up b i) where
  split := h.split
  go := h.go
  len := h.len
  un := h.un
  rest_off := fun j hj => by
    have hji : j ≠ i := fun e => by subst e; exact hi hj
    rw [up_ne hji]; exact h.rest_off j hj
  recs := fun p k q o hp hb ho => by
    by_cases hki : k = i
    · subst hki; rw [up_self] at hb; cases hb
    · rw [up_ne hki] at hb; exact h.recs p k q o hp hb ho
  flok := h.flok

theorem split_snoc {p q : List Nat} {k i : Nat} (h : pre ++ [i] = p ++ k :: q) : (k = i ∧ q = [] ∧ p = pre) ∨ ∃ q', q = q' ++ [i] ∧ pre = p ++ k :: q' := by
  rcases List.eq_nil_or_concat q with rfl | ⟨q', x, rfl⟩
  · have := List.append_inj' h rfl
    exact .inl ⟨by have := this.2; simp at this; exact this.symm, rfl, this.1.symm⟩
  · right
    have h2 : pre ++ [i] = (p ++ k :: q') ++ [x] := by rw [h]; simp
    have := List.append_inj' h2 rfl
    exact ⟨q', by have := this.2; simp at this; rw [this]; simp, this.1⟩

/-- Operation i, at the head of what is left, is taken: slots. -/
theorem Stage.slots {i : Nat} {ts : List DV} (hd : DrawOk T ops sched B) (h : Stage P T ops B ts0 KK sched pre (i :: rest) fl ts σ b) {oi : Oper} (hoi : ops[i]? = some oi) (x : DV) :
    (∀ s, anyDst ops (fun j => (pre ++ [i]).contains j) s = false → (putD ts oi.dst x)[s]? = ts0[s]?) ∧
    (∀ p k q, pre = p ++ k :: q → sel ops ts0 (putD ts oi.dst x) (fun j => p.contains j) = sel ops ts0 ts (fun j => p.contains j)) ∧
    (∀ p k q ok d, pre = p ++ k :: q → ops[k]? = some ok → ok.dst = some d → (putD ts oi.dst x)[d]? = ts[d]?) ∧
    (sel ops ts0 (putD ts oi.dst x) (fun j => pre.contains j) = ts) := by
  have hin : i < ops.size := (Array.getElem?_eq_some_iff.1 hoi).1
  have hnd := hd.nodup
  rw [h.split] at hnd
  have hip : i ∉ pre := fun hm => (List.nodup_append.1 hnd).2.2 i hm i List.mem_cons_self rfl
  have hput : ∀ j, j ∈ pre → ∀ s, dstOf ops j = some s → oi.dst ≠ some s := fun j hj s hs he => by
    have hjn := hd.lt j (by rw [h.split]; exact List.mem_append_left _ hj)
    have := hd.dst j i s hjn hin hs (by rw [dstOf_eq hoi]; exact he)
    exact hip (this ▸ hj)
  have hsel : ∀ p : List Nat, (∀ j, j ∈ p → j ∈ pre) → sel ops ts0 (putD ts oi.dst x) (fun j => p.contains j) = sel ops ts0 ts (fun j => p.contains j) := fun p hp =>
    sel_ext (by rw [putD_length, h.len]) h.len (fun s => by
      cases ha : anyDst ops (fun j => p.contains j) s with
      | true =>
        obtain ⟨j, h1, h2, h3⟩ := anyDst_iff.1 ha
        simp only [if_true]
        exact putD_other (hput j (hp j (by simpa using h2)) s h3)
      | false => rfl)
  refine ⟨fun s hs => ?_, fun p k q hp => hsel p (fun j hj => by rw [hp]; exact List.mem_append_left _ hj), fun p k q ok d hp hok hdd => ?_, ?_⟩
  · have h1 : oi.dst ≠ some s := fun he => by
      have : anyDst ops (fun j => (pre ++ [i]).contains j) s = true := anyDst_iff.2 ⟨i, hin, by simp, by rw [dstOf_eq hoi]; exact he⟩
      rw [hs] at this; cases this
    have h2 : anyDst ops (fun j => pre.contains j) s = false := by
      cases ha : anyDst ops (fun j => pre.contains j) s with
      | false => rfl
      | true =>
        obtain ⟨j, k1, k2, k3⟩ := anyDst_iff.1 ha
        have : anyDst ops (fun j => (pre ++ [i]).contains j) s = true := anyDst_iff.2 ⟨j, k1, by simp at k2 ⊢; exact .inl k2, k3⟩
        rw [hs] at this; cases this
    rw [putD_other h1, h.un s h2]
  · exact putD_other (hput k (by rw [hp]; simp) d (by rw [dstOf_eq hok]; exact hdd))
  · rw [hsel pre (fun j hj => hj)]; exact h.cur

theorem Rec.frame {ts ts' : List DV} {p : List Nat} {ok : Oper} (h : Rec T ops ts0 ts σ (fun j => p.contains j) ok) (h1 : sel ops ts0 ts' (fun j => p.contains j) = sel ops ts0 ts (fun j => p.contains j)) (h2 : ∀ d, ok.dst = some d → ts'[d]? = ts[d]?) (hl : ts'.length = ts.length) : Rec T ops ts0 ts' σ (fun j => p.contains j) ok := by
  obtain ⟨g, hg, hoff, hon⟩ := h
  refine ⟨g, by rw [h1]; exact hg, fun e d hd hlt => by rw [h2 d hd]; exact hoff e d hd (hl ▸ hlt), fun e => ?_⟩
  obtain ⟨hk, x, hx, hs⟩ := hon e
  exact ⟨hk, x, by rw [h1]; exact hx, fun d hd hlt => by rw [h2 d hd]; exact hs d hd (hl ▸ hlt)⟩

/-- What needs nothing of the heap's turns is taken at once. -/
theorem Stage.float {i : Nat} {ts : List DV} (hd : DrawOk T ops sched B) (h : Stage P T ops B ts0 KK sched pre (i :: rest) fl ts σ b) {oi : Oper} (hoi : ops[i]? = some oi) {x : DV} {fl' : List Nat} (hgo : dops P T ops B rest fl' (putD ts oi.dst x) σ KK)
    (hfl : ∀ j ∈ fl, j ∈ fl') (hrec : ∃ g, gon ops ts oi.guard = some g ∧ (g = false → x = .tup []) ∧ (g = true → kindOf T oi.op ≠ .core ∧ aop T oi ts σ = some (x, σ) ∧ (kindOf T oi.op = .read → i ∈ fl'))) :
    Stage P T ops B ts0 KK sched (pre ++ [i]) rest fl' (putD ts oi.dst x) σ b ∧ ∀ s, anyDst ops b s = true → (putD ts oi.dst x)[s]? = ts[s]? := by
  have hin : i < ops.size := (Array.getElem?_eq_some_iff.1 hoi).1
  obtain ⟨s1, s2, s3, s4⟩ := h.slots hd hoi x
  obtain ⟨g, hg, hgf, hgt⟩ := hrec
  refine ⟨⟨by rw [h.split]; simp, hgo, by rw [putD_length, h.len], s1, fun j hj => h.rest_off j (List.mem_cons_of_mem _ hj), fun p k q ok hp hb hok => ?_, fun p k q ok hp hok hk hgk => ?_⟩, fun s hs => ?_⟩
  · rcases split_snoc hp with ⟨rfl, rfl, rfl⟩ | ⟨q', rfl, hpre⟩
    · rw [hoi] at hok; cases hok
      refine ⟨g, by rw [s4]; exact hg, fun e d hdd hlt => ?_, fun e => ⟨(hgt e).1, x, by rw [s4]; exact (hgt e).2.1, fun d hdd hlt => ?_⟩⟩
      · rw [hgf e, hdd]; rw [putD_length] at hlt; exact List.getElem?_set_self hlt
      · rw [hdd]; rw [putD_length] at hlt; exact List.getElem?_set_self hlt
    · exact (h.recs p k q' ok hpre hb hok).frame (s2 p k q' hpre) (fun d hdd => s3 p k q' ok d hpre hok hdd) (putD_length _ _)
  · rcases split_snoc hp with ⟨rfl, rfl, rfl⟩ | ⟨q', rfl, hpre⟩
    · rw [hoi] at hok; cases hok
      rw [s4, hg] at hgk
      have : g = true := Option.some.inj hgk
      exact (hgt this).2.2 hk
    · rw [s2 p k q' hpre] at hgk
      exact hfl k (h.flok p k q' ok hpre hok hk hgk)
  · obtain ⟨j, k1, k2, k3⟩ := anyDst_iff.1 hs
    refine putD_other (fun he => ?_)
    have := hd.dst j i s k1 hin k3 (by rw [dstOf_eq hoi]; exact he)
    rw [this, h.rest_off i List.mem_cons_self] at k2
    cases k2

def HeadCore (T : Tab) (ops : Array Oper) (ts : List DV) : List Nat → Prop
  | [] => True
  | i :: _ => ∃ oi, ops[i]? = some oi ∧ gon ops ts oi.guard = some true ∧ kindOf T oi.op = .core

theorem Stage.advance (hd : DrawOk T ops sched B) : ∀ {rest pre fl : List Nat} {ts : List DV}, Stage P T ops B ts0 KK sched pre rest fl ts σ b →
    ∃ pre' rest' fl' ts', Stage P T ops B ts0 KK sched pre' rest' fl' ts' σ b ∧ HeadCore T ops ts' rest' ∧ ∀ s, anyDst ops b s = true → ts'[s]? = ts[s]?
  | [], pre, fl, ts, h => ⟨pre, [], fl, ts, h, trivial, fun _ _ => rfl⟩
  | i :: rest, pre, fl, ts, h => by
    have hgo := h.go
    unfold dops at hgo
    split at hgo
    · exact hgo.elim
    · rename_i oi hoi
      split at hgo
      · exact hgo.elim
      · rename_i hg
        obtain ⟨h1, h2⟩ := h.float hd hoi hgo (fun _ hj => hj) ⟨false, hg, fun _ => rfl, fun e => (by cases e)⟩
        obtain ⟨pre', rest', fl', ts', k1, k2, k3⟩ := Stage.advance hd h1
        exact ⟨pre', rest', fl', ts', k1, k2, fun s hs => (k3 s hs).trans (h2 s hs)⟩
      · rename_i hg
        split at hgo
        · rename_i hk
          exact ⟨pre, i :: rest, fl, ts, h, ⟨oi, hoi, hg, hk⟩, fun _ _ => rfl⟩
        · rename_i hk
          split at hgo
          · rename_i r hr
            have hne : kindOf T oi.op ≠ .core := by rw [hk]; decide
            have hrs := aop_same hne hr
            obtain ⟨h1, h2⟩ := h.float hd hoi hgo (fun _ hj => List.mem_cons_of_mem _ hj) ⟨true, hg, fun e => (by cases e), fun _ => ⟨hne, by rw [hr]; congr 1; exact Prod.ext rfl hrs, fun _ => List.mem_cons_self⟩⟩
            obtain ⟨pre', rest', fl', ts', k1, k2, k3⟩ := Stage.advance hd h1
            exact ⟨pre', rest', fl', ts', k1, k2, fun s hs => (k3 s hs).trans (h2 s hs)⟩
          · exact hgo.elim
        · rename_i hk
          split at hgo
          · rename_i r hr
            have hne : kindOf T oi.op ≠ .core := by rw [hk]; decide
            have hrs := aop_same hne hr
            obtain ⟨h1, h2⟩ := h.float hd hoi hgo (fun _ hj => hj) ⟨true, hg, fun e => (by cases e), fun _ => ⟨hne, by rw [hr]; congr 1; exact Prod.ext rfl hrs, fun e => (by rw [hk] at e; cases e)⟩⟩
            obtain ⟨pre', rest', fl', ts', k1, k2, k3⟩ := Stage.advance hd h1
            exact ⟨pre', rest', fl', ts', k1, k2, fun s hs => (k3 s hs).trans (h2 s hs)⟩
          · exact hgo.elim

/-- A step of the heap: the core operation at the head is taken. -/
theorem Stage.core (hd : DrawOk T ops sched B) {i : Nat} {ts : List DV} (h : Stage P T ops B ts0 KK sched pre (i :: rest) fl ts σ b) {oi : Oper} (hoi : ops[i]? = some oi) {x : DV} {σ' : Heap} (hgo : dops P T ops B rest fl (putD ts oi.dst x) σ' KK) (hlate : lateL T ops B i ts σ' fl)
    (hk : kindOf T oi.op = .core) (hon : ∀ j, j < ops.size → bitOf B i j = true → b j = true) : Stage P T ops B ts0 KK sched (pre ++ [i]) rest fl (putD ts oi.dst x) σ' (up b i) := by
  have hin : i < ops.size := (Array.getElem?_eq_some_iff.1 hoi).1
  obtain ⟨s1, s2, s3, s4⟩ := h.slots hd hoi x
  have hnd := hd.nodup
  rw [h.split] at hnd
  have hir : i ∉ rest := fun hm => by
    have := (List.nodup_append.1 hnd).2.1
    exact (List.nodup_cons.1 this).1 hm
  refine ⟨by rw [h.split]; simp, hgo, by rw [putD_length, h.len], s1, fun j hj => ?_, fun p k q ok hp hb hok => ?_, fun p k q ok hp hok hkk hgk => ?_⟩
  · have hji : j ≠ i := fun e => by subst e; exact hir hj
    rw [up_ne hji]; exact h.rest_off j (List.mem_cons_of_mem _ hj)
  · rcases split_snoc hp with ⟨rfl, rfl, rfl⟩ | ⟨q', rfl, hpre⟩
    · rw [up_self] at hb; cases hb
    · have hki : k ≠ i := fun e => by subst e; rw [up_self] at hb; cases hb
      rw [up_ne hki] at hb
      have hkn : k < ops.size := (Array.getElem?_eq_some_iff.1 hok).1
      have hr := h.recs p k q' ok hpre hb hok
      obtain ⟨g, hg, hgf, hgt⟩ := hr
      have hbit : bitOf B i k = false := by
        cases hbb : bitOf B i k with
        | false => rfl
        | true => rw [hon k hkn hbb] at hb; cases hb
      have hr' : Rec T ops ts0 ts σ' (fun j => p.contains j) ok := by
        refine ⟨g, hg, hgf, fun e => ?_⟩
        obtain ⟨hne, y, hy, hys⟩ := hgt e
        refine ⟨hne, ?_⟩
        cases hkk : kindOf T ok.op with
        | core => exact absurd hkk hne
        | pure => exact ⟨y, aop_pure hkk hy σ', hys⟩
        | read =>
          subst e
          have hfl := h.flok p k q' ok hpre hok hkk hg
          have hl := lateL_mem hlate k hfl hbit ok hok
          refine ⟨slotD ts ok.dst, ?_, fun d hdd hlt => ?_⟩
          · rw [← hl]
            refine aop_congr (fun z hz => ?_)
            have hag : Agree ops ok ts (sel ops ts0 ts (fun j => p.contains j)) := by
              intro s hsl
              rw [sel_get h.len]
              cases ha : anyDst ops (fun j => p.contains j) s with
              | true => rfl
              | false =>
                have hsn : anyDst ops (fun j => pre.contains j) s = false := by
                  cases hb2 : anyDst ops (fun j => pre.contains j) s with
                  | false => rfl
                  | true =>
                    obtain ⟨j, k1, k2, k3⟩ := anyDst_iff.1 hb2
                    have hbj := hd.confR k j ok s hok hkk k1 k3 hsl
                    have hjp := hd.topo p k (q' ++ i :: rest) (by rw [h.split, hpre]; simp) j k1 hbj
                    have : anyDst ops (fun j => p.contains j) s = true := anyDst_iff.2 ⟨j, k1, by simpa using hjp, k3⟩
                    rw [ha] at this; cases this
                rw [h.un s hsn]; rfl
            exact hag.eval hz
          · have := hys d hdd hlt
            rw [this, slotD, hdd]
            simp [this]
      exact hr'.frame (s2 p k q' hpre) (fun d hdd => s3 p k q' ok d hpre hok hdd) (putD_length _ _)
  · rcases split_snoc hp with ⟨rfl, rfl, rfl⟩ | ⟨q', rfl, hpre⟩
    · rw [hoi] at hok; cases hok
      rw [hk] at hkk; cases hkk
    · rw [s2 p k q' hpre] at hgk
      exact h.flok p k q' ok hpre hok hkk hgk

theorem wanted_gon {c : Cf} {a : Act} {ts : List DV} (hTR : TR c ts a) {oi : Oper} {g : Bool} (hg : gon ops ts oi.guard = some g) : Region.wanted oi (yielded ops a.tmps) = g := by
  cases hgd : oi.guard with
  | none => rw [hgd] at hg; cases hg; simp [Region.wanted, hgd]
  | some q =>
    obtain ⟨j, want⟩ := q
    rw [hgd] at hg
    simp only [gon] at hg
    cases hb : gval ops ts j with
    | none => rw [hb] at hg; cases hg
    | some bb =>
      rw [hb] at hg
      have hy := gval_yields hTR hb
      simp only [Region.wanted, hgd, hy]
      cases bb with
      | none =>
        have := Option.some.inj hg
        subst this; rfl
      | some bb =>
        have := Option.some.inj hg
        cases bb <;> cases want <;> simp_all

/-- THE REGION THAT DRAWS ITS ORDER: one order is reckoned, and what it asks. -/
theorem AW.draw (hT : TOk P T) {id : Nat} {TT : Bool × List (List Nat × List Nat)} {ts : List DV} {Q : Exit → List DV → Heap → Prop} (sched : List Nat) (B : List (List Nat)) (hmix : P.follows .mixedOrders = true) (hrt : rtab .any ops = TT) (hwt : waitsOk TT.2 (B.map maskOf) = true) (hbk : baseOk TT.2 (List.range ops.size) = true) (hlen : TT.2.length = ops.size)
    (hd : DrawOk T ops sched B) (h : dops P T ops B sched [] ts σ (Q .normal)) : AW P (.region id ops true) ts σ Q := by
  intro c hc hσ a hTR
  refine start_ (S := fun _ => True) (ds := []) (Array.replicate ops.size false) hmix rfl rfl trivial (fun _ => ?_)
  have hdrew : ∃ c', c'.w = c.w.drew ∧ c'.σ = c.σ ∧ Ok P c' ∧ Ev c c' := by
    refine ⟨{ c with w := c.w.drew }, rfl, rfl, ?_, ?_⟩
    · have hev : Ev c { c with w := c.w.drew } := ⟨Nat.le_refl _, fun _ _ => Nat.le_refl _, fun _ _ _ _ _ h => h, fun _ h => h, fun _ _ => rfl, Nat.le_refl _, rfl, rfl, rfl⟩
      refine ⟨fun t ob hob => ?_, hc.inj, hc.zlt⟩
      exact (hc.obj t ob hob).keep hev rfl rfl (fun _ h => h)
    · exact ⟨Nat.le_refl _, fun _ _ => Nat.le_refl _, fun _ _ _ _ _ h => h, fun _ h => h, fun _ _ => rfl, Nat.le_refl _, rfl, rfl, rfl⟩
  obtain ⟨c1, hw1, hσ1, hc1, hev1⟩ := hdrew
  have hT1 := hTR.ev hev1
  have hst0 : Stage P T ops B ts (Q .normal) sched [] sched [] ts σ (fun _ => false) := ⟨rfl, h, rfl, fun s _ => rfl, fun _ _ => rfl, fun p i q o hp => by simp at hp, fun p i q o hp => by simp at hp⟩
  obtain ⟨pre1, rest1, fl1, ts1, hst1, hh1, _⟩ := hst0.advance hd
  let I : (Nat → Bool) → Act → World → Prop := fun b a w => ∃ pre rest fl ts' σ' c', Stage P T ops B ts (Q .normal) sched pre rest fl ts' σ' b ∧ HeadCore T ops ts' rest ∧ Ok P c' ∧ c'.σ = σ' ∧ c'.w = w ∧ Ev c c' ∧ TR c' (sel ops ts ts' b) a
  have hsel0 : sel ops ts ts1 (fun _ => false) = ts := by
    apply List.ext_getElem?
    intro s
    rw [sel_get hst1.len]
    have : anyDst ops (fun _ => false) s = false := by simp [anyDst]
    rw [this]; rfl
  have hI0 : I (fun _ => false) a c.w.drew := ⟨pre1, rest1, fl1, ts1, σ, c1, hst1, hh1, hc1, hσ1.trans hσ, hw1, hev1, by rw [hsel0]; exact hT1⟩
  have hlof : (lof TT.2.length (List.range ops.size) (fun _ => false) == (Array.replicate ops.size false).toList && (List.range ops.size).length == ops.size) = true := by
    have : lof TT.2.length (List.range ops.size) (fun _ => false) = List.replicate ops.size false := by
      rw [hlen]
      apply List.ext_getElem?
      intro k
      by_cases hk : k < ops.size
      · simp [lof, List.getElem?_range hk, List.getElem?_replicate, hk]
      · rw [List.getElem?_eq_none (by simp [lof]; omega), List.getElem?_eq_none (by simp; omega)]
    simp [this]
  refine inv_ (List.range ops.size) I hrt hwt hbk hlof hI0 (fun i hi => ?_) (fun b a' w hall hI => ?_)
  · -- a step
    intro b a w hI hbi hon' hoff'
    have hin : i < ops.size := List.mem_range.1 hi
    have hon : ∀ j, j < ops.size → bitOf B i j = true → b j = true := fun j hj hb => hon' j (by rw [List.contains_iff_mem.2 (List.mem_range.2 hj)]; exact bit_mask hb)
    have hoff : ∀ d, d < ops.size → bitOf B d i = true → b d = false := fun j hj hb => hoff' j (by rw [List.contains_iff_mem.2 (List.mem_range.2 hj)]; exact bit_mask hb)
    obtain ⟨pre, rest, fl, ts', σ', c', hst, hhead, hok', rfl, rfl, hev', hTR'⟩ := hI
    obtain ⟨oi, hoi⟩ : ∃ oi, ops[i]? = some oi := ⟨ops[i], Array.getElem?_eq_getElem hin⟩
    refine ⟨oi, hoi, fun KK hKK => ?_⟩
    have hmem := hd.perm i hin
    rw [hst.split] at hmem
    rcases List.mem_append.1 hmem with hpre | hrest
    · -- it was taken ahead: slots as they were told
      obtain ⟨p, q, hpq⟩ := List.append_of_mem hpre
      obtain ⟨g, hg, hgf, hgt⟩ := hst.recs p i q oi hpq hbi hoi
      have hag := sel_agree (b := b) (ts0 := ts) hd hst.len (by rw [hst.split, hpq, List.append_assoc]; rfl) hoi hbi hon hoff
      have hir : i ∉ rest := fun hm => by
        have := hst.rest_off i hm
        have hnd := hd.nodup
        rw [hst.split] at hnd
        exact (List.nodup_append.1 hnd).2.2 i hpre i hm rfl
      have hgb : gon ops (sel ops ts ts' b) oi.guard = some g := by rw [hag.gon]; exact hg
      have hwant := wanted_gon hTR' hgb
      rw [hwant]
      cases g with
      | false =>
        simp only [Bool.false_eq_true, if_false]
        refine hKK _ _ ⟨pre, rest, fl, ts', c'.σ, c', hst.mark hir, hhead, hok', rfl, rfl, hev', ?_⟩
        rw [sel_up hst.len hoi (fun d hdd hlt => hgf rfl d hdd hlt)]
        exact hTR'.put oi.dst V_undef
      | true =>
        simp only [if_true]
        obtain ⟨hne, x, hx, hxs⟩ := hgt rfl
        have hx' : aop T oi (sel ops ts ts' b) c'.σ = some (x, c'.σ) := by rw [← hx]; exact aop_congr (fun z hz => hag.eval hz)
        have hop : AOp P oi (sel ops ts ts' b) c'.σ (fun y τ => y = x ∧ τ = c'.σ) := aop_sound hT hx' ⟨rfl, rfl⟩
        refine hop c' hok' rfl a hTR' _ _ (fun v y c2 h1 h2 h3 h4 => hKK _ _ ?_)
        obtain ⟨rfl, hσ2⟩ := h4
        refine ⟨pre, rest, fl, ts', c'.σ, c2, hst.mark hir, hhead, h1, hσ2, rfl, hev'.trans h2, ?_⟩
        rw [sel_up hst.len hoi hxs]
        exact (hTR'.ev h2).put oi.dst h3
    · -- it is the head
      cases rest with
      | nil => cases hrest
      | cons h0 rest =>
        obtain ⟨o0, ho0, hg0, hk0⟩ := hhead
        have hi0 : i = h0 := by
          rcases List.mem_cons.1 hrest with e | hm
          · exact e
          · exfalso
            obtain ⟨p, q, hpq⟩ := List.append_of_mem hm
            have hbit := hd.asap (pre ++ h0 :: p) i q (by rw [hst.split, hpq]; simp) h0 o0 (by simp) ho0 hk0
            have h0n : h0 < ops.size := (Array.getElem?_eq_some_iff.1 ho0).1
            have := hon h0 h0n hbit
            rw [hst.rest_off h0 List.mem_cons_self] at this
            cases this
        subst hi0
        rw [hoi] at ho0; cases ho0
        have hag := sel_agree (b := b) (ts0 := ts) hd hst.len hst.split hoi hbi hon hoff
        rw [hst.cur] at hag
        have hgb : gon ops (sel ops ts ts' b) oi.guard = some true := by rw [hag.gon]; exact hg0
        have hwant := wanted_gon hTR' hgb
        rw [hwant]
        simp only [if_true]
        have hgo := hst.go
        unfold dops at hgo
        simp only [hoi, hg0, hk0] at hgo
        have hop := hgo (sel ops ts ts' b) (fun z hz => hag.eval hz)
        refine hop c' hok' rfl a hTR' _ _ (fun v y c2 h1 h2 h3 h4 => hKK _ _ ?_)
        obtain ⟨hlate, hgo'⟩ := h4
        have hst2 := hst.core hd hoi hgo' hlate hk0 hon
        obtain ⟨pre3, rest3, fl3, ts3, hst3, hh3, hk3⟩ := hst2.advance hd
        refine ⟨pre3, rest3, fl3, ts3, c2.σ, c2, hst3, hh3, h1, rfl, rfl, hev'.trans h2, ?_⟩
        have he : sel ops ts ts3 (up b i) = putD (sel ops ts ts' b) oi.dst y := by
          have e1 : sel ops ts ts3 (up b i) = sel ops ts (putD ts' oi.dst y) (up b i) := sel_ext hst3.len hst2.len (fun s => by
            cases ha : anyDst ops (up b i) s with
            | true => simp only [if_true]; exact hk3 s ha
            | false => rfl)
          have e2 : sel ops ts (putD ts' oi.dst y) (up b i) = putD (sel ops ts (putD ts' oi.dst y) b) oi.dst y := sel_up hst2.len hoi (fun d hdd hlt => by rw [hdd]; rw [putD_length] at hlt; exact List.getElem?_set_self hlt)
          have e3 : sel ops ts (putD ts' oi.dst y) b = sel ops ts ts' b := sel_ext hst2.len hst.len (fun s => by
            cases ha : anyDst ops b s with
            | true =>
              simp only [if_true]
              obtain ⟨j, k1, k2, k3⟩ := anyDst_iff.1 ha
              refine putD_other (fun hes => ?_)
              have := hd.dst j i s k1 hin k3 (by rw [dstOf_eq hoi]; exact hes)
              rw [this, hbi] at k2; cases k2
            | false => rfl)
          rw [e1, e2, e3]
        rw [he]
        exact (hTR'.ev h2).put oi.dst h3
  · -- the end
    obtain ⟨pre, rest, fl, ts', σ', c', hst, hhead, hok', rfl, rfl, hev', hTR'⟩ := hI
    have hallb : ∀ j, j < ops.size → b j = true := fun j hj => hall j (List.contains_iff_mem.2 (List.mem_range.2 hj))
    have hrest : rest = [] := by
      cases rest with
      | nil => rfl
      | cons k r =>
        have hkn := hd.lt k (by rw [hst.split]; simp)
        have := hst.rest_off k List.mem_cons_self
        rw [hallb k hkn] at this; cases this
    subst hrest
    have hgo := hst.go
    unfold dops at hgo
    have hsel : sel ops ts ts' b = ts' := by
      apply List.ext_getElem?
      intro s
      rw [sel_get hst.len]
      cases ha : anyDst ops b s with
      | true => rfl
      | false =>
        have : anyDst ops (fun j => pre.contains j) s = false := by
          cases hb2 : anyDst ops (fun j => pre.contains j) s with
          | false => rfl
          | true =>
            obtain ⟨j, k1, k2, k3⟩ := anyDst_iff.1 hb2
            have : anyDst ops b s = true := anyDst_iff.2 ⟨j, k1, hallb j k1, k3⟩
            rw [ha] at this; cases this
        rw [hst.un s this]; rfl
    rw [hsel] at hTR'
    exact ⟨ts', c', rfl, hok', hev', hTR', hgo⟩

def alongB (check : List Nat → Nat → Bool) : List Nat → List Nat → Bool
  | _, [] => true
  | pre, i :: r => check pre i && alongB check (pre ++ [i]) r
theorem alongB_ok {check : List Nat → Nat → Bool} : ∀ {l pre : List Nat}, alongB check pre l = true → ∀ p i q, l = p ++ i :: q → check (pre ++ p) i = true
  | [], pre, h, p, i, q, he => by simp at he
  | k :: r, pre, h, [], i, q, he => by
    simp only [alongB, Bool.and_eq_true] at h
    simp at he
    rw [List.append_nil, ← he.1]; exact h.1
  | k :: r, pre, h, k' :: p, i, q, he => by
    simp only [alongB, Bool.and_eq_true] at h
    simp at he
    have := alongB_ok h.2 p i q he.2
    rw [← he.1]; simpa using this
def drawB (T : Tab) (ops : Array Oper) (sched : List Nat) (B : List (List Nat)) : Bool :=
  (List.range ops.size).all (fun i => sched.contains i) && sched.all (fun i => decide (i < ops.size)) && decide sched.Nodup &&
  (List.range ops.size).all (fun i => (List.range ops.size).all fun j => i == j || dstOf ops i == none || !(dstOf ops i == dstOf ops j)) &&
  alongB (fun pre i => (List.range ops.size).all fun j => !bitOf B i j || pre.contains j) [] sched &&
  (List.range ops.size).all (fun i => match ops[i]? with
    | some o => (List.range ops.size).all fun j => match dstOf ops j with
      | some d => !(slotsOf ops o).contains d || ((j == i || bitOf B i j || bitOf B j i) && (!(decide (kindOf T o.op = .read)) || bitOf B i j))
      | none => true
    | none => true) &&
  alongB (fun pre i => pre.all fun c => match ops[c]? with | some o => !(decide (kindOf T o.op = .core)) || bitOf B i c | none => true) [] sched
theorem drawB_ok {sched : List Nat} {B : List (List Nat)} (h : drawB T ops sched B = true) : DrawOk T ops sched B := by
  simp only [drawB, Bool.and_eq_true] at h
  obtain ⟨⟨⟨⟨⟨⟨h1, h2⟩, h3⟩, h4⟩, h5⟩, h6⟩, h7⟩ := h
  have conf : ∀ i j o d, ops[i]? = some o → j < ops.size → dstOf ops j = some d → d ∈ slotsOf ops o → (j = i ∨ bitOf B i j = true ∨ bitOf B j i = true) ∧ (kindOf T o.op = .read → bitOf B i j = true) := by
    intro i j o d hi hj hd hs
    have hin := (Array.getElem?_eq_some_iff.1 hi).1
    have k1 := List.all_eq_true.1 h6 i (List.mem_range.2 hin)
    rw [hi] at k1
    have k2 := List.all_eq_true.1 k1 j (List.mem_range.2 hj)
    rw [hd] at k2
    have hc : (slotsOf ops o).contains d = true := List.contains_iff_mem.2 hs
    simp only [hc] at k2
    simp only [Bool.not_true, Bool.false_or, Bool.and_eq_true, Bool.or_eq_true, beq_iff_eq, Bool.not_eq_true', decide_eq_false_iff_not] at k2
    refine ⟨?_, fun hk => ?_⟩
    · rcases k2.1 with (h | h) | h
      · exact .inl h
      · exact .inr (.inl h)
      · exact .inr (.inr h)
    · rcases k2.2 with h | h
      · exact absurd hk h
      · exact h
  refine ⟨fun i hi => ?_, fun i hi => ?_, of_decide_eq_true h3, fun i j d hi hj h8 h9 => ?_, fun pre i rest hs j hj hb => ?_, fun i j o d hi hj hji hd hs => ?_, fun i j o d hi hk hj hd hs => (conf i j o d hi hj hd hs).2 hk, fun pre i rest hs c o hc ho hk => ?_⟩
  · exact List.contains_iff_mem.1 (List.all_eq_true.1 h1 i (List.mem_range.2 hi))
  · simpa using List.all_eq_true.1 h2 i hi
  · have := List.all_eq_true.1 (List.all_eq_true.1 h4 i (List.mem_range.2 hi)) j (List.mem_range.2 hj)
    rw [h8, h9] at this
    simpa using this
  · have := alongB_ok h5 pre i rest hs
    rw [List.nil_append] at this
    have := List.all_eq_true.1 this j (List.mem_range.2 hj)
    rw [hb] at this
    exact List.contains_iff_mem.1 (by simpa using this)
  · rcases (conf i j o d hi hj hd hs).1 with h | h
    · exact absurd h hji
    · exact h
  · have := alongB_ok h7 pre i rest hs
    rw [List.nil_append] at this
    have := List.all_eq_true.1 this c hc
    rw [ho] at this
    simpa [hk] using this
def drawAll (T : Tab) (ops : Array Oper) (sched : List Nat) (B : List (List Nat)) : Bool :=
  waitsOk (rtab .any ops).2 (B.map maskOf) && baseOk (rtab .any ops).2 (List.range ops.size) && (rtab .any ops).2.length == ops.size && drawB T ops sched B

/-- What needs nothing of the heap's turns, taken as far as that goes. -/
def dstep (T : Tab) (ops : Array Oper) (i : Nat) (o : Oper) (fl : List Nat) (ts : List DV) (σ : Heap) : Option (List Nat × DV) :=
  match gon ops ts o.guard with
  | some false => some (fl, .tup [])
  | some true => (match kindOf T o.op with
    | .core => none
    | .read => (match aop T o ts σ with | some r => some (i :: fl, r.1) | none => none)
    | .pure => (match aop T o ts σ with | some r => some (fl, r.1) | none => none))
  | none => none
def drun (T : Tab) (ops : Array Oper) : List Nat → List Nat → List DV → Heap → List Nat × List Nat × List DV
  | [], fl, ts, σ => ([], fl, ts)
  | i :: rest, fl, ts, σ => match ops[i]? with
    | some o => (match dstep T ops i o fl ts σ with
      | some r => drun T ops rest r.1 (putD ts o.dst r.2) σ
      | none => (i :: rest, fl, ts))
    | none => (i :: rest, fl, ts)
def DLeft (P : Program) (T : Tab) (ops : Array Oper) (B : List (List Nat)) (sched fl : List Nat) (ts : List DV) (σ : Heap) (K : List DV → Heap → Prop) : Prop := dops P T ops B sched fl ts σ K
def dfin (P : Program) (T : Tab) (ops : Array Oper) (B : List (List Nat)) (r : List Nat × List Nat × List DV) (σ : Heap) (K : List DV → Heap → Prop) : Prop :=
  match r with
  | ([], _, ts) => K ts σ
  | (sched, fl, ts) => DLeft P T ops B sched fl ts σ K
theorem dfin_ok : ∀ {sched fl : List Nat} {ts : List DV} {K : List DV → Heap → Prop}, dfin P T ops B (drun T ops sched fl ts σ) σ K → dops P T ops B sched fl ts σ K
  | [], fl, ts, K, h => h
  | i :: rest, fl, ts, K, h => by
    unfold drun at h
    cases ho : ops[i]? with
    | none => rw [ho] at h; exact h
    | some o =>
      rw [ho] at h
      simp only at h
      cases hs : dstep T ops i o fl ts σ with
      | none => rw [hs] at h; exact h
      | some r =>
        rw [hs] at h
        have h' := dfin_ok h
        unfold dstep at hs
        unfold dops
        rw [ho]
        simp only
        split at hs
        · rename_i hg; rw [hg]; cases hs; exact h'
        · rename_i hg
          rw [hg]
          simp only
          split at hs
          · cases hs
          · rename_i hk
            split at hs
            · rename_i q hq; cases hs; exact h'
            · cases hs
          · rename_i hk
            split at hs
            · rename_i q hq; cases hs; exact h'
            · cases hs
        · cases hs
/-- The region: a schedule, and what each operation waits for. -/
theorem AW.drawn (hT : TOk P T) {id : Nat} {ts : List DV} {Q : Exit → List DV → Heap → Prop} (sched : List Nat) (B : List (List Nat)) (hmix : P.follows .mixedOrders = true) (hall : drawAll T ops sched B = true) (h : dfin P T ops B (drun T ops sched [] ts σ) σ (Q .normal)) : AW P (.region id ops true) ts σ Q := by
  simp only [drawAll, Bool.and_eq_true] at hall
  obtain ⟨⟨⟨h1, h2⟩, h3⟩, h4⟩ := hall
  exact AW.draw hT sched B hmix rfl h1 h2 (by simpa using h3) (drawB_ok h4) (dfin_ok h)
/-- The next step of the heap is a call. -/
theorem DLeft.call {i : Nat} {rest fl : List Nat} {ts : List DV} {K : List DV → Heap → Prop} {oi : Oper} {cal : Operand} {as : Array Operand} {at_ : Array TypeId} {f : FuncId} {first cap ds : List DV} (hoi : ops[i]? = some oi) (hg : gon ops ts oi.guard = some true)
    (ho : oi.op = .call { callee := .value cal, args := as, argTypes := at_ }) (hc : Cm.eval ts cal = some (.fn (.func f) first cap)) (hf : FnOk P f) (has : evalL ts as.toList = some ds)
    (h : ACalls P f (first ++ ds ++ cap) σ (fun x σ' => lateL T ops B i ts σ' fl ∧ dfin P T ops B (drun T ops rest fl (putD ts oi.dst x) σ') σ' K)) : DLeft P T ops B (i :: rest) fl ts σ K := by
  unfold DLeft dops
  rw [hoi]
  simp only [hg]
  have hk : kindOf T oi.op = .core := by rw [ho]; rfl
  rw [hk]
  exact AOpA.call ho hc hf has (h.mono (fun x σ' hh => ⟨hh.1, dfin_ok hh.2⟩))
/-- The next step of the heap is reckoned. -/
theorem DLeft.step (hT : TOk P T) {i : Nat} {rest fl : List Nat} {ts : List DV} {K : List DV → Heap → Prop} {oi : Oper} {r : DV × Heap} (hoi : ops[i]? = some oi) (hg : gon ops ts oi.guard = some true) (hk : kindOf T oi.op = .core) (hr : aop T oi ts σ = some r)
    (h : lateL T ops B i ts r.2 fl ∧ dfin P T ops B (drun T ops rest fl (putD ts oi.dst r.1) r.2) r.2 K) : DLeft P T ops B (i :: rest) fl ts σ K := by
  unfold DLeft dops
  rw [hoi]
  simp only [hg, hk]
  exact AOpA.reckoned hT hr ⟨h.1, dfin_ok h.2⟩
end
end
end Go.Proofs.Ytdkhlhfdjggbpaa.Cm
