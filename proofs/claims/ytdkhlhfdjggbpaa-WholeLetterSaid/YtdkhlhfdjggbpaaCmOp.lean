import Derived.Test.YtdkhlhfdjggbpaaCmRow
set_option linter.unusedVariables false
set_option linter.unusedSimpArgs false
namespace Go.Proofs.Ytdkhlhfdjggbpaa.Cm
open Go.RowKit

section
variable {P : Program} {T : Tab} {o : Oper} {ts : List DV} {σ : Heap} {K : DV → Heap → Prop}

theorem V.plain_inv {c : Cf} {v w : Value} (h : V c (.sc v) w) : w = v ∧ plain v = true := by
  cases h with
  | sc h => exact ⟨rfl, h⟩

theorem AOp.move {x : Operand} {d : DV} (ho : o.op = .move x) (hx : Cm.eval ts x = some d) (hK : K d σ) : AOp P o ts σ K :=
  AOp.val (fun c hc hσ a hT => ⟨a.eval x, by simp [execOp, ho], hT.eval hx⟩) hK
theorem AOp.assign {x : Operand} {d : DV} (ho : o.op = .assign x) (hx : Cm.eval ts x = some d) (hK : K d σ) : AOp P o ts σ K :=
  AOp.val (fun c hc hσ a hT => ⟨a.eval x, by simp [execOp, ho], hT.eval hx⟩) hK
theorem AOp.pick {x y z : Operand} {b : Bool} {d e : DV} (ho : o.op = .pick x y z) (hx : Cm.eval ts x = some (.sc (.bool b))) (hy : Cm.eval ts y = some d) (hz : Cm.eval ts z = some e) (hK : K (if b = true then d else e) σ) : AOp P o ts σ K := by
  refine AOp.val (fun c hc hσ a hT => ⟨if b = true then a.eval y else a.eval z, ?_, ?_⟩) hK
  · obtain ⟨hb, _⟩ := (hT.eval hx).plain_inv
    simp only [execOp, ho, hb, asBool, Sem.run_bind, Sem.run_pure, Result.andThen_ok]
  · split
    · exact hT.eval hy
    · exact hT.eval hz
def extractD (x : DV) (i : Nat) : Option DV := match x with | .tup l => l[i]? | _ => none
theorem AOp.extract {x : Operand} {i : Nat} {d e : DV} (ho : o.op = .extract x i) (hx : Cm.eval ts x = some d) (he : extractD d i = some e) (hK : K e σ) : AOp P o ts σ K := by
  refine AOp.val (fun c hc hσ a hT => ?_) hK
  have hv := hT.eval hx
  unfold extractD at he
  split at he
  · rename_i l
    generalize hax : a.eval x = ax at hv
    cases hv with
    | tup hl hv =>
      rename_i us
      have hlt : i < us.length := by rw [hl]; exact (List.getElem?_eq_some_iff.1 he).1
      refine ⟨us[i], ?_, hv i e _ he (List.getElem?_eq_getElem hlt)⟩
      simp [execOp, ho, hax, Instr.extract, hlt]
  · cases he

/-- Operators on plain values. -/
def abin (T : Tab) (op : BinOp) (ty : TypeId) (x y : Value) : Option Value :=
  match x, y with
  | .int k a, .int k' b => match op with
    | .shl => if 0 ≤ b then some (.int k (k.wrap (a * 2 ^ (min b.toNat k.bits)))) else none
    | .shr => if 0 ≤ b then some (.int k (a.fdiv (2 ^ (min b.toNat k.bits)))) else none
    | op => if k = k' then (match op with
      | .add => some (.int k (k.wrap (a + b)))
      | .sub => some (.int k (k.wrap (a - b)))
      | .mul => some (.int k (k.wrap (a * b)))
      | .quo => if b = 0 then none else some (.int k (k.wrap (a.tdiv b)))
      | .rem => if b = 0 then none else some (.int k (a.tmod b))
      | .and => some (.int k (bits .and k a b))
      | .or => some (.int k (bits .or k a b))
      | .xor => some (.int k (bits .xor k a b))
      | .eql => some (.bool (a == b))
      | .neq => some (.bool (a != b))
      | .lss => some (.bool (decide (a < b)))
      | .leq => some (.bool (decide (a ≤ b)))
      | .gtr => some (.bool (decide (b < a)))
      | .geq => some (.bool (decide (b ≤ a)))
      | _ => none) else none
  | .bool a, .bool b => match T ty with
    | some ⟨.bool, _, _, _⟩ => (match op with
      | .eql => some (.bool (a == b))
      | .neq => some (.bool (!(a == b)))
      | _ => none)
    | _ => none
  | .string a, .string b => match op with
    | .add => if a.size + b.size ≤ 9223372036854775807 then some (.string (a ++ b)) else none
    | .eql => some (.bool (a.toList == b.toList))
    | .neq => some (.bool (!(a.toList == b.toList)))
    | _ => none
  | _, _ => none

theorem abin_plain {op : BinOp} {ty : TypeId} {x y v : Value} (h : abin T op ty x y = some v) : plain v = true := by
  unfold abin at h
  split at h
  · split at h
    · split at h <;> cases h; rfl
    · split at h <;> cases h; rfl
    · split at h
      · split at h <;> first | (cases h; rfl) | (split at h <;> cases h; rfl) | cases h
      · cases h
  · split at h
    · split at h <;> cases h <;> rfl
    · cases h
  · split at h
    · split at h <;> cases h; rfl
    · cases h; rfl
    · cases h; rfl
    · cases h
  · cases h

theorem abin_run (hT : TOk P T) {op : BinOp} {ty yt : TypeId} {ox oy : Operand} {x y v : Value} (h : abin T op ty x y = some v) (w : World) : ((do eqGuard op ty ox oy x y; binOp op ty x y : Sem Value)).run P w = .ok v w := by
  unfold abin at h
  split at h
  · rename_i k a k' b
    have hg : eqGuard op ty ox oy (.int k a) (.int k' b) = pure () := eqGuard_at_int ..
    rw [hg]
    simp only [Sem.run_bind, Sem.run_pure, Result.andThen_ok]
    split at h
    · split at h
      · rename_i hb; cases h; simp [binOp, Op.shift, hb]; omega
      · cases h
    · split at h
      · rename_i hb; cases h; simp [binOp, Op.shift, hb]; omega
      · cases h
    · split at h
      · rename_i hk
        subst hk
        split at h
        · cases h; rw [binOp_add]; rfl
        · cases h; rw [binOp_sub]; rfl
        · cases h; rw [binOp_mul]; rfl
        · split at h
          · cases h
          · rename_i hb; cases h; rw [binOp_quo]; simp [Op.intDiv, hb]
        · split at h
          · cases h
          · rename_i hb; cases h; rw [binOp_rem]; simp [Op.intDiv, hb]
        · cases h; rw [binOp_and, intBits_and]; rfl
        · cases h; rw [binOp_or, intBits_or]; rfl
        · cases h; rw [binOp_xor, intBits_xor]; rfl
        · cases h; rw [binOp_eql]; rfl
        · cases h; rw [binOp_neq]; rfl
        · cases h; rw [binOp_lss]; rfl
        · cases h; rw [binOp_leq]; rfl
        · cases h; rw [binOp_gtr]; rfl
        · cases h; rw [binOp_geq]; rfl
        · cases h
      · cases h
  · rename_i a b
    have hg : eqGuard op ty ox oy (.bool a) (.bool b) = pure () := eqGuard_at_bool ..
    rw [hg]
    simp only [Sem.run_bind, Sem.run_pure, Result.andThen_ok]
    split at h
    · rename_i hty
      have hd := (hT _ _ hty).desc
      simp only [descOk] at hd
      split at h
      · cases h; exact run_eql_bool w ty a b hd
      · cases h
        have : binOp .neq ty (.bool a) (.bool b) = (do pure (.bool (!(← Op.equal ty (.bool a) (.bool b))))) := rfl
        rw [this, Sem.run_bind, run_equal_bool w ty a b hd]; rfl
      · cases h
    · cases h
  · rename_i a b
    have hg : eqGuard op ty ox oy (.string a) (.string b) = pure () := eqGuard_at_string ..
    rw [hg]
    simp only [Sem.run_bind, Sem.run_pure, Result.andThen_ok]
    split at h
    · split at h
      · rename_i hb
        cases h
        have : ¬ (((a.size + b.size : Nat) : Int) > IntKind.i64.max) := by simp [IntKind.max, IntKind.signed, IntKind.bits]; omega
        simp only [binOp, Op.stringOp, this, if_false]; rfl
      · cases h
    · cases h; simp [binOp, Op.stringOp]
    · cases h; simp [binOp, Op.stringOp]
    · cases h
  · cases h

theorem AOp.bin (hT : TOk P T) {op : BinOp} {ty yt : TypeId} {x y : Operand} {u v r : Value} (ho : o.op = .binOp op ty x y yt) (hx : Cm.eval ts x = some (.sc u)) (hy : Cm.eval ts y = some (.sc v)) (hr : abin T op ty u v = some r) (hK : K (.sc r) σ) : AOp P o ts σ K := by
  refine AOp.val (fun c hc hσ a hTR => ⟨r, ?_, .sc (abin_plain hr)⟩) hK
  obtain ⟨h1, _⟩ := (hTR.eval hx).plain_inv
  obtain ⟨h2, _⟩ := (hTR.eval hy).plain_inv
  have := abin_run (P := P) hT (ox := x) (oy := y) (yt := yt) hr c.w
  simp only [execOp, ho, h1, h2]
  rw [Sem.run_bind, this]; rfl

theorem eqIn_slice_nil (w : World) (d : Nat) (t e : TypeId) (a : Option Addr) (l c : Nat) (h : P.underlying t = some (.slice e)) : (Op.equalIn (d + 1) t (.slice a l c) (.slice none 0 0)).run P w = .ok a.isNone w := by
  cases a <;> simp [Op.equalIn, run_underlying h]
theorem eq_slice_nil (w : World) (t e : TypeId) (a : Option Addr) (l c : Nat) (h : P.underlying t = some (.slice e)) : (Op.equal t (.slice a l c) (.slice none 0 0)).run P w = .ok a.isNone w := eqIn_slice_nil w 9999 t e a l c h

/-- Compared with nil. -/
def nilD (T : Tab) (ty : TypeId) (x : DV) : Option Bool :=
  match T ty with
  | some ⟨.slice _, _, _, _⟩ => (match x with | .sc (.slice none 0 0) => some true | .sl .. => some false | .imm (_ :: _) => some false | _ => none)
  | some ⟨.pointer _, _, _, _⟩ => (match x with | .sc (.pointer none) => some true | .ptr .. => some false | .ip .. => some false | _ => none)
  | _ => none
def nilOf (T : Tab) (ty : TypeId) : Value := match T ty with | some ⟨.slice _, _, _, _⟩ => .slice none 0 0 | _ => .pointer none

theorem nil_run (hT : TOk P T) {c : Cf} {ty : TypeId} {x : DV} {v : Value} {b : Bool} (hv : V c x v) (hb : nilD T ty x = some b) (op : BinOp) (hop : op = .eql ∨ op = .neq) {ox oy : Operand} (w : World) :
    ((do eqGuard op ty ox oy v (nilOf T ty); binOp op ty v (nilOf T ty) : Sem Value)).run P w = .ok (.bool (if op = .eql then b else !b)) w := by
  unfold nilD at hb
  unfold nilOf
  split at hb
  · rename_i e sz by_ ze hty
    have hd := (hT _ _ hty).desc
    simp only [descOk] at hd
    obtain ⟨A, n, cp, rfl, hA⟩ : ∃ A n cp, v = .slice A n cp ∧ A.isNone = b := by
      split at hb
      · cases hb; cases hv; exact ⟨_, _, _, rfl, rfl⟩
      · cases hb
        cases hv with
        | sl => exact ⟨_, _, _, rfl, rfl⟩
      · cases hb
        cases hv with
        | imm hc hm hsz hl hA h0 h1 hv =>
          rename_i A cp us
          refine ⟨A, _, _, rfl, ?_⟩
          cases A with
          | some a => rfl
          | none => exact absurd (h0 rfl).1 (by simp)
      · cases hb
    have hg : eqGuard op ty ox oy (.slice A n cp) (.slice none 0 0) = pure () := eqGuard_at_slice ..
    rw [hty]
    simp only [hg, Sem.run_bind, Sem.run_pure, Result.andThen_ok]
    rcases hop with rfl | rfl
    · have : binOp .eql ty (.slice A n cp) (.slice none 0 0) = (do pure (.bool (← Op.equal ty (.slice A n cp) (.slice none 0 0)))) := rfl
      rw [this, Sem.run_bind, eq_slice_nil w ty e A n cp hd, hA]; rfl
    · have : binOp .neq ty (.slice A n cp) (.slice none 0 0) = (do pure (.bool (!(← Op.equal ty (.slice A n cp) (.slice none 0 0))))) := rfl
      rw [this, Sem.run_bind, eq_slice_nil w ty e A n cp hd, hA]; rfl
  · rename_i e sz by_ ze hty
    have hd := (hT _ _ hty).desc
    simp only [descOk] at hd
    obtain ⟨A, rfl, hA⟩ : ∃ A, v = .pointer A ∧ A.isNone = b := by
      split at hb
      · cases hb; cases hv; exact ⟨_, rfl, rfl⟩
      · cases hb
        cases hv with
        | ptr => exact ⟨_, rfl, rfl⟩
      · cases hb
        cases hv with
        | ip => exact ⟨_, rfl, rfl⟩
      · cases hb
    have hd' : P.underlying ty = some (.pointer (P.pointee ty)) := by rw [Program.pointee, hd]
    have hg : eqGuard op ty ox oy (.pointer A) (.pointer none) = pure () := eqGuard_at_pointer ..
    rw [hty]
    simp only [hg, Sem.run_bind, Sem.run_pure, Result.andThen_ok]
    rcases hop with rfl | rfl
    · have : binOp .eql ty (.pointer A) (.pointer none) = (do pure (.bool (← Op.equal ty (.pointer A) (.pointer none)))) := rfl
      rw [this, Sem.run_bind, run_equal_pointer_nil w ty A hd', hA]; rfl
    · have : binOp .neq ty (.pointer A) (.pointer none) = (do pure (.bool (!(← Op.equal ty (.pointer A) (.pointer none))))) := rfl
      rw [this, Sem.run_bind, run_equal_pointer_nil w ty A hd', hA]; rfl
  · cases hb

theorem AOp.eqNil (hT : TOk P T) {op : BinOp} {ty yt : TypeId} {x y : Operand} {d : DV} {b : Bool} (hop : op = .eql ∨ op = .neq) (ho : o.op = .binOp op ty x y yt) (hx : Cm.eval ts x = some d) (hy : Cm.eval ts y = some (.sc (nilOf T ty))) (hb : nilD T ty d = some b)
    (hK : K (.sc (.bool (if op = .eql then b else !b))) σ) : AOp P o ts σ K := by
  refine AOp.val (fun c hc hσ a hTR => ⟨_, ?_, .sc rfl⟩) hK
  obtain ⟨h2, _⟩ := (hTR.eval hy).plain_inv
  have := nil_run (P := P) hT (hTR.eval hx) hb op hop (ox := x) (oy := y) c.w
  simp only [execOp, ho, h2]
  rw [Sem.run_bind, this]; rfl

/-- A slice that may be nil or not, being empty. -/
theorem AOp.eqNil_any (hT : TOk P T) {op : BinOp} {ty e yt : TypeId} {x y : Operand} {sz by_ : Nat} {ze : List Value} (hop : op = .eql ∨ op = .neq) (ho : o.op = .binOp op ty x y yt) (hx : Cm.eval ts x = some (.imm [])) (hy : Cm.eval ts y = some (.sc (.slice none 0 0))) (hty : T ty = some ⟨.slice e, sz, by_, ze⟩)
    (hK : ∀ b : Bool, K (.sc (.bool b)) σ) : AOp P o ts σ K := by
  refine AOp.run (fun c hc hσ a hTR => ?_)
  obtain ⟨h2, _⟩ := (hTR.eval hy).plain_inv
  have hv := hTR.eval hx
  have hd := (hT _ _ hty).desc
  simp only [descOk] at hd
  generalize hax : a.eval x = ax at hv
  cases hv with
  | imm hc' hm hsz hl hA h0 h1 hv =>
    rename_i sz2 A cp us
    have hg : eqGuard op ty x y (.slice A ([] : List (List DV)).length cp) (.slice none 0 0) = pure () := eqGuard_at_slice ..
    refine ⟨.bool (if op = .eql then A.isNone else !A.isNone), _, c, ?_, hc, Ev.refl c, .sc rfl, by rw [hσ]; exact hK _⟩
    simp only [execOp, ho, h2, hax, hg]
    rcases hop with rfl | rfl
    · have : binOp .eql ty (.slice A ([] : List (List DV)).length cp) (.slice none 0 0) = (do pure (.bool (← Op.equal ty (.slice A ([] : List (List DV)).length cp) (.slice none 0 0)))) := rfl
      rw [this]
      simp only [Sem.run_bind, Sem.run_pure, Result.andThen_ok, eq_slice_nil c.w ty e A _ cp hd]; rfl
    · have : binOp .neq ty (.slice A ([] : List (List DV)).length cp) (.slice none 0 0) = (do pure (.bool (!(← Op.equal ty (.slice A ([] : List (List DV)).length cp) (.slice none 0 0))))) := rfl
      rw [this]
      simp only [Sem.run_bind, Sem.run_pure, Result.andThen_ok, eq_slice_nil c.w ty e A _ cp hd]; rfl

/-- The rest of what reckons on one value. -/
def aun (op : UnOp) : Value → Option Value
  | .bool b => match op with | .not => some (.bool (!b)) | _ => none
  | .int k n => match op with | .neg => some (.int k (k.wrap (0 - n))) | _ => none
  | _ => none
theorem AOp.un {op : UnOp} {ty : TypeId} {x : Operand} {u r : Value} (ho : o.op = .unOp op ty x) (hx : Cm.eval ts x = some (.sc u)) (hr : aun op u = some r) (hK : K (.sc r) σ) : AOp P o ts σ K := by
  have hp : plain r = true := by
    unfold aun at hr
    split at hr
    · split at hr <;> cases hr; rfl
    · split at hr <;> cases hr; rfl
    · cases hr
  refine AOp.val (fun c hc hσ a hTR => ⟨r, ?_, .sc hp⟩) hK
  obtain ⟨h1, _⟩ := (hTR.eval hx).plain_inv
  unfold aun at hr
  split at hr
  · split at hr <;> cases hr; simp [execOp, ho, h1, Op.unary]
  · split at hr <;> cases hr; simp [execOp, ho, h1, Op.unary, Op.intArith]
  · cases hr

theorem descOk_some {t : TypeId} {k : TK} (h : descOk P t k) : ∃ d, P.underlying t = some d := by
  cases k <;> simp only [descOk] at h <;> first | exact ⟨_, h⟩ | (obtain ⟨_, h, _⟩ := h; exact ⟨_, h⟩) | (obtain ⟨_, _, _, h⟩ := h; exact ⟨_, h⟩) | (obtain ⟨_, h⟩ := h; exact ⟨_, h⟩)
theorem AOp.convInt (hT : TOk P T) {src dst : TypeId} {x : Operand} {k k' : IntKind} {n : Int} {si : TI} {sz by_ : Nat} {ze : List Value} (ho : o.op = .convert src dst x) (hx : Cm.eval ts x = some (.sc (.int k n))) (hs : T src = some si) (hd : T dst = some ⟨.int k', sz, by_, ze⟩)
    (hK : K (.sc (.int k' (k'.wrap n))) σ) : AOp P o ts σ K := by
  refine AOp.val (fun c hc hσ a hTR => ⟨_, ?_, .sc rfl⟩) hK
  obtain ⟨h1, _⟩ := (hTR.eval hx).plain_inv
  obtain ⟨d, h2⟩ := descOk_some (hT _ _ hs).desc
  have h3 := (hT _ _ hd).desc
  simp only [descOk] at h3
  simp [execOp, ho, h1, convert, run_underlying h2, run_underlying h3, Conv.intToInt]

/-- Bytes as told values. -/
def bytesD (l : List Int) : List (List DV) := l.map fun n => [.sc (.int .u8 n)]
theorem bytesD_size (l : List Int) : ∀ el ∈ bytesD l, el.length = 1 := by
  intro el hel
  simp only [bytesD, List.mem_map] at hel
  obtain ⟨n, _, rfl⟩ := hel; rfl
theorem bytesD_length (l : List Int) : (bytesD l).length = l.length := by simp [bytesD]
theorem bytesD_values {c : Cf} : ∀ {l : List Int} {us : List Value}, FR c (bytesD l).flatten us → us = l.map (Value.int .u8)
  | [], us, h => by
    have := h.len
    simp [bytesD] at this; simp [this]
  | n :: l, us, h => by
    cases us with
    | nil => have hl := h.len; simp [bytesD] at hl
    | cons u us =>
      have h0 := h.v 0 (.sc (.int .u8 n)) u (by simp [bytesD]) (by simp)
      obtain ⟨rfl, _⟩ := h0.plain_inv
      have hr : FR c (bytesD l).flatten us := by
        have := h.drop 1
        simpa [bytesD] using this
      rw [bytesD_values hr]; rfl

theorem AOp.toString (hT : TOk P T) {src dst e : TypeId} {x : Operand} {d : DV} {l : List Int} {s1 s2 s3 b1 b2 b3 : Nat} {z1 z2 z3 : List Value} (ho : o.op = .convert src dst x) (hx : Cm.eval ts x = some d) (hs : T src = some ⟨.slice e, s1, b1, z1⟩) (he : T e = some ⟨.int .u8, s2, b2, z2⟩) (hd : T dst = some ⟨.string, s3, b3, z3⟩)
    (hl : sliceD σ d = some (bytesD l)) (hK : K (.sc (.string (strOfNums l))) σ) : AOp P o ts σ K := by
  refine AOp.val (fun c hc hσ a hTR => ⟨_, ?_, .sc rfl⟩) hK
  subst hσ
  obtain ⟨A, cp, us, hv, hlc, hcm, hul, hcells, hAn, hfr⟩ := slice_reads hc (hTR.eval hx) hl (bytesD_size l)
  have h1 := (hT _ _ hs).desc
  have h2 := (hT _ _ he).desc
  have h3 := (hT _ _ hd).desc
  simp only [descOk] at h1 h2 h3
  have husv := bytesD_values hfr
  simp only [execOp, ho, hv]
  rw [Sem.run_bind]
  have hrun : (convert src dst (.slice A (bytesD l).length cp)).run P c.w = .ok (.string (strOfNums l)) c.w := by
    by_cases hl0 : l = []
    · subst hl0
      cases A with
      | none => exact run_convert_bytes_nil c.w src e h1 h2 _ _ dst h3
      | some ad =>
        obtain ⟨b, f, sp⟩ := ad
        have := run_convert_bytes_string (P := P) c.w src dst e (some ⟨b, f, sp⟩) 0 cp h1 h2 h3
        simp only [bytesD, List.map_nil, List.length_nil]
        rw [this]
        simp [Conv.bytesToString, loadCells, loadCellsFrom]; rfl
    · have hne : us ≠ [] := by rw [husv]; simpa using hl0
      obtain ⟨ad, rfl, hsp, hs⟩ := hcells hne
      obtain ⟨b, f, sp⟩ := ad
      cases hsp
      refine run_convert_bytes_arg c.w src e h1 h2 b f _ cp l (bytesD_length l).symm (fun i hi => ?_) dst h3
      rw [bytesD_length] at hi
      have := hs i (.int .u8 (l.getD i 0)) (by rw [husv]; simp [List.getElem?_eq_getElem hi, List.getD])
      rw [cell_lit (w := c.w) rfl] at this
      exact this
  rw [hrun]; rfl

/-- How many. -/
def lenD (T : Tab) (ty : TypeId) (x : DV) : Option Int :=
  match T ty with
  | some ⟨.slice _, _, _, _⟩ => (match x with | .sc (.slice none 0 0) => some 0 | .sl _ _ len _ => some len | .imm l => some l.length | _ => none)
  | some ⟨.string, _, _, _⟩ => (match x with | .sc (.string s) => some s.size | _ => none)
  | _ => none
theorem AOp.len (hT : TOk P T) {ty : TypeId} {x : Operand} {d : DV} {n : Int} (ho : o.op = .call { callee := .builtin .len, args := #[x], argTypes := #[ty] }) (hx : Cm.eval ts x = some d) (hn : lenD T ty d = some n) (hK : K (.sc (.int .i64 n)) σ) : AOp P o ts σ K := by
  refine AOp.val (fun c hc hσ a hTR => ⟨_, ?_, .sc rfl⟩) hK
  have hv := hTR.eval hx
  unfold lenD at hn
  split at hn
  · rename_i e sz by_ ze hty
    have hd := (hT _ _ hty).desc
    simp only [descOk] at hd
    obtain ⟨A, m, cp, he, rfl⟩ : ∃ A m cp, a.eval x = .slice A m cp ∧ (m : Int) = n := by
      split at hn
      · cases hn; obtain ⟨h, _⟩ := hv.plain_inv; exact ⟨_, _, _, h, rfl⟩
      · cases hn
        generalize a.eval x = v at hv
        cases hv with | sl => exact ⟨_, _, _, rfl, rfl⟩
      · cases hn
        generalize a.eval x = v at hv
        cases hv with | imm => exact ⟨_, _, _, rfl, rfl⟩
      · cases hn
    simp [execOp, ho, resolve, invoke, builtin, he, Builtin.len_, run_underlying hd, goInt]
  · rename_i sz by_ ze hty
    have hd := (hT _ _ hty).desc
    simp only [descOk] at hd
    split at hn
    · cases hn; obtain ⟨h, _⟩ := hv.plain_inv
      simp [execOp, ho, resolve, invoke, builtin, h, Builtin.len_, run_underlying hd, goInt]
    · cases hn
  · cases hn
end
end Go.Proofs.Ytdkhlhfdjggbpaa.Cm
