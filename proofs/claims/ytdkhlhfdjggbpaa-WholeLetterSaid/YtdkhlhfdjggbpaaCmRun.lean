import Derived.Test.YtdkhlhfdjggbpaaCmMark
set_option linter.unusedVariables false
set_option linter.unusedSimpArgs false
namespace Go.Proofs.Ytdkhlhfdjggbpaa.Cm
open Go.RowKit

section
variable {P : Program} {T : Tab} {o : Oper} {ts : List DV} {σ : Heap} {K : DV → Heap → Prop}

theorem AOp.makeFunc {f : FuncId} {first cap : Array Operand} {a b : List DV} (ho : o.op = .makeFunc (.func f) first cap) (ha : evalL ts first.toList = some a) (hb : evalL ts cap.toList = some b) (hK : K (.fn (.func f) a b) σ) : AOp P o ts σ K := by
  refine AOp.val (fun c hc hσ ac hTR => ?_) hK
  have h1 := evalL_VL hTR ha
  have h2 := evalL_VL hTR hb
  refine ⟨.func (.func f) (first.map ac.eval) (cap.map ac.eval), by simp [execOp, ho, Instr.makeFunc], ?_⟩
  have e1 : first.map ac.eval = (first.toList.map ac.eval).toArray := by apply Array.ext'; simp
  have e2 : cap.map ac.eval = (cap.toList.map ac.eval).toArray := by apply Array.ext'; simp
  rw [e1, e2]
  exact V.fn (f := .func f) h1.1 h2.1 h1.2 h2.2
/-- Structs and arrays of plain values: alike? -/
def eqAggD (T : Tab) (ty : TypeId) (l m : List DV) : Option Bool :=
  match T ty with
  | some ti => if ti.cmp = true then (match kvals l, kvals m with | some us, some vs => if fitL ti.zero us = true ∧ fitL ti.zero vs = true then some (eqvL us vs) else none | _, _ => none) else none
  | none => none
def eqOp (op : BinOp) (b : Bool) : Option Bool := match op with | .eql => some b | .neq => some (!b) | _ => none
theorem AOp.eqAgg (hT : TOk P T) {op : BinOp} {ty yt : TypeId} {x y : Operand} {l m : List DV} {b b' : Bool} (ho : o.op = .binOp op ty x y yt) (hx : Cm.eval ts x = some (.agg l)) (hy : Cm.eval ts y = some (.agg m)) (h : eqAggD T ty l m = some b) (hb : eqOp op b = some b') (hK : K (.sc (.bool b')) σ) : AOp P o ts σ K := by
  refine AOp.val (fun c hc hσ a hTR => ⟨.bool b', ?_, .sc rfl⟩) hK
  unfold eqAggD at h
  split at h
  · rename_i ti hti
    have ht := hT _ _ hti
    split at h
    · rename_i hcm
      obtain ⟨hcmp, hgu⟩ := ht.cmpOk hcm
      split at h
      · rename_i us vs hus hvs
        split at h
        · rename_i hfit
          cases h
          have e1 := agg_V (hTR.eval hx) hus
          have e2 := agg_V (hTR.eval hy) hvs
          obtain ⟨_, u, hu, _⟩ := cmpB_cells hcmp
          have hag : isAggB u = true := by
            have hd := ht.desc
            unfold TI.cmp at hcm
            split at hcm
            · rename_i fs c hk
              rw [hk] at hd
              obtain ⟨F, hF, _⟩ := hd
              rw [hu] at hF; cases hF; rfl
            · rename_i n e c hk
              rw [hk] at hd
              have hd' : P.underlying ty = some (.array n e) := hd
              rw [hu] at hd'; cases hd'; rfl
            · cases hcm
          have hq := eqIn_ok 20 10000 ty _ _ _ (by decide) hcmp hfit.1 hfit.2 c.w u hu
          rw [hag] at hq
          simp only [vOf, if_true] at hq
          simp only [execOp, ho, e1, e2]
          unfold eqOp at hb
          split at hb
          · cases hb
            simp only [Sem.run_bind, run_eqGuard_agg _ _ _ _ _ _ _ hgu, Result.andThen_ok, run_eql_struct, hq]
            rfl
          · cases hb
            simp only [Sem.run_bind, run_eqGuard_agg _ _ _ _ _ _ _ hgu, Result.andThen_ok, run_neq_struct, hq]
            rfl
          · cases hb
        · cases h
      · cases h
    · cases h
  · cases h
def anil (T : Tab) (op : BinOp) (ty : TypeId) (d : DV) (v : Value) : Option Value :=
  match nilD T ty d with
  | some b => if peq v (nilOf T ty) = true then (match op with | .eql => some (.bool b) | .neq => some (.bool (!b)) | _ => none) else none
  | none => none
def convD (T : Tab) (σ : Heap) (src dst : TypeId) (d : DV) : Option DV :=
  match T src, T dst with
  | some _, some ⟨.int k', _, _, _⟩ => (match d with | .sc (.int _ n) => some (.sc (.int k' (k'.wrap n))) | _ => none)
  | some ⟨.slice e, _, _, _⟩, some ⟨.string, _, _, _⟩ => (match T e with
    | some ⟨.int .u8, _, _, _⟩ => (match sliceD σ d with | some l => (match unbytes l with | some b => some (.sc (.string (strOfNums b))) | none => none) | none => none)
    | _ => none)
  | some ⟨.string, _, _, _⟩, some ⟨.slice e, _, _, _⟩ => (match T e, d with
    | some ⟨.int .u8, _, _, _⟩, .sc (.string s) => if s.size ≤ maxLen then some (.imm (bytesD (s.data.toList.map fun b => (b.toNat : Int)))) else none
    | _, _ => none)
  | _, _ => none
def makeD (T : Tab) (σ : Heap) (ty : TypeId) (n m : Int) : Option (DV × Heap) :=
  match T ty with
  | some ⟨.slice e, _, _, _⟩ => (match T e with
    | some ei => if 0 < ei.size ∧ 0 ≤ n ∧ n ≤ m ∧ m.toNat * (ei.bytes + 1) ≤ 140737488355328 then some (.sl σ.n 0 n.toNat n.toNat, σ.push ⟨List.replicate n.toNat (ei.zero.map .sc), e, true⟩) else none
    | none => none)
  | _ => none
def evalI (ts : List DV) : Option Operand → Option (Option Int)
  | none => some none
  | some x => match Cm.eval ts x with | some (.sc (.int _ i)) => some (some i) | _ => none
def withσ (σ : Heap) : Option DV → Option (DV × Heap)
  | some d => some (d, σ)
  | none => none
def appendX (T : Tab) (σ : Heap) (ty : TypeId) (d e : DV) : Option (DV × Heap) := match appendD T σ ty d e with | some r => some r | none => appendP T σ ty d e
def callD (T : Tab) (c : Call) (ts : List DV) (σ : Heap) : Option (DV × Heap) :=
  match c.callee with
  | .builtin .len => (match c.args.toList, c.argTypes.toList with
    | [x], [ty] => (match Cm.eval ts x with | some d => (match lenD T ty d with | some n => some (.sc (.int .i64 n), σ) | none => none) | none => none)
    | _, _ => none)
  | .builtin .append => (match c.args.toList, c.argTypes.toList with
    | [s, x], [ty, ty2] => if ty2 = ty then (match Cm.eval ts s, Cm.eval ts x with | some d, some e => appendX T σ ty d e | _, _ => none) else none
    | _, _ => none)
  | .builtin .clear => (match c.args.toList, c.argTypes.toList with
    | [x], [ty] => (match Cm.eval ts x with | some d => (match clearD T σ ty d with | some σ' => some (.tup [], σ') | none => none) | none => none)
    | _, _ => none)
  | _ => none

/-- One operation, where it can be reckoned. -/
def aop (T : Tab) (o : Oper) (ts : List DV) (σ : Heap) : Option (DV × Heap) :=
  match o.op with
  | .move x => withσ σ (Cm.eval ts x)
  | .assign x => withσ σ (Cm.eval ts x)
  | .pick x y z => (match Cm.eval ts x, Cm.eval ts y, Cm.eval ts z with | some (.sc (.bool b)), some d, some e => some (if b = true then d else e, σ) | _, _, _ => none)
  | .extract x i => (match Cm.eval ts x with | some d => withσ σ (extractD d i) | none => none)
  | .binOp op ty x y _ => (match Cm.eval ts x, Cm.eval ts y with
    | some (.sc u), some (.sc v) => (match abin T op ty u v with | some r => some (.sc r, σ) | none => (match anil T op ty (.sc u) v with | some r => some (.sc r, σ) | none => none))
    | some (.agg l), some (.agg m) => (match eqAggD T ty l m with | some b => (match eqOp op b with | some b' => some (.sc (.bool b'), σ) | none => none) | none => none)
    | some d, some (.sc v) => (match anil T op ty d v with | some r => some (.sc r, σ) | none => none)
    | _, _ => none)
  | .unOp op _ x => (match Cm.eval ts x with | some (.sc u) => (match aun op u with | some r => some (.sc r, σ) | none => none) | _ => none)
  | .load ty x => (match Cm.eval ts x with | some d => withσ σ (loadD T σ ty d) | none => none)
  | .store ty x y => (match Cm.eval ts x, Cm.eval ts y with | some d, some e => (match storeD T σ ty d e with | some σ' => some (.tup [], σ') | none => none) | _, _ => none)
  | .fieldAddr s x f => (match Cm.eval ts x with | some d => withσ σ (fieldAddrD T s f d) | none => none)
  | .field s x f => (match Cm.eval ts x with | some d => withσ σ (fieldD T s f d) | none => none)
  | .indexAddr ty x ix => (match Cm.eval ts x, Cm.eval ts ix with | some d, some (.sc (.int _ i)) => withσ σ (indexAddrD T σ ty d i) | _, _ => none)
  | .index ty x ix => (match Cm.eval ts x, Cm.eval ts ix with | some d, some (.sc (.int _ i)) => withσ σ (indexD T ty d i) | _, _ => none)
  | .alloc e => (match T e with | some ti => if 0 < ti.size then some (.ptr σ.n 0 0 1, σ.push ⟨[ti.zero.map .sc], e, true⟩) else none | none => none)
  | .box e x => (match Cm.eval ts x with | some d => boxD T σ e d | none => none)
  | .build ty ps => (match evalParts ts ps.toList with | some ds => withσ σ (buildD T ty ds) | none => none)
  | .buildSlice ty len ps => (match evalParts ts ps.toList with | some ds => buildSliceD T σ ty len ds | none => none)
  | .slice ty x lo hi none => (match Cm.eval ts x, evalI ts lo, evalI ts hi with | some d, some l, some h => withσ σ (cutD T σ ty d l h) | _, _, _ => none)
  | .slice ty x lo hi (some mo) => (match Cm.eval ts x, evalI ts lo, evalI ts hi, Cm.eval ts mo with | some d, some l, some h, some (.sc (.int _ mx)) => withσ σ (cutM T σ ty d l h mx) | _, _, _, _ => none)
  | .makeSlice ty l c => (match Cm.eval ts l, Cm.eval ts c with | some (.sc (.int _ n)), some (.sc (.int _ m)) => makeD T σ ty n m | _, _ => none)
  | .convert src dst x => (match Cm.eval ts x with | some d => (match markD T σ src dst d with | some r => some r | none => withσ σ (convD T σ src dst d)) | none => none)
  | .nilCheck x => (match Cm.eval ts x with | some (.ptr t i j m) => some (.ptr t i j m, σ) | some (.ip l) => some (.ip l, σ) | some (.ifc ty d) => some (.ifc ty d, σ) | _ => none)
  | .call c => callD T c ts σ
  | .makeFunc (.func f) first cap => (match evalL ts first.toList, evalL ts cap.toList with | some a, some b => some (.fn (.func f) a b, σ) | _, _ => none)
  | _ => none

theorem withσ_some {d : Option DV} {r : DV × Heap} (h : withσ σ d = some r) : d = some r.1 ∧ r.2 = σ := by
  cases d with
  | none => cases h
  | some d => cases h; exact ⟨rfl, rfl⟩

theorem evalI_some {ts : List DV} {lo : Option Operand} {lv : Option Int} (h : evalI ts lo = some lv) : ∃ k, optEv ts k lo lv := by
  unfold evalI at h
  split at h
  · cases h; exact ⟨.i64, trivial⟩
  · split at h
    · rename_i k i hk; cases h; exact ⟨k, hk⟩
    · cases h

theorem aop_sound (hT : TOk P T) {r : DV × Heap} (h : aop T o ts σ = some r) (hK : K r.1 r.2) : AOp P o ts σ K := by
  unfold aop at h
  split at h
  · rename_i x ho
    obtain ⟨h1, h2⟩ := withσ_some h
    exact AOp.move ho h1 (h2 ▸ hK)
  · rename_i x ho
    obtain ⟨h1, h2⟩ := withσ_some h
    exact AOp.assign ho h1 (h2 ▸ hK)
  · rename_i x y z ho
    split at h
    · rename_i b d e hx hy hz; cases h; exact AOp.pick ho hx hy hz hK
    · cases h
  · rename_i x i ho
    split at h
    · rename_i d hx
      obtain ⟨h1, h2⟩ := withσ_some h
      exact AOp.extract ho hx h1 (h2 ▸ hK)
    · cases h
  · rename_i op ty x y yt ho
    have nil : ∀ d v r', Cm.eval ts x = some d → Cm.eval ts y = some (.sc v) → anil T op ty d v = some r' → r = (.sc r', σ) → AOp P o ts σ K := fun d v r' hx hy ha hr => by
      subst hr
      unfold anil at ha
      split at ha
      · rename_i b hb
        split at ha
        · rename_i hp
          obtain ⟨rfl, _⟩ := peq_eq hp
          split at ha
          · cases ha; exact AOp.eqNil hT (.inl rfl) ho hx hy hb hK
          · cases ha; exact AOp.eqNil hT (.inr rfl) ho hx hy hb hK
          · cases ha
        · cases ha
      · cases ha
    split at h
    · rename_i u v hx hy
      split at h
      · rename_i r' hr; cases h; exact AOp.bin hT ho hx hy hr hK
      · split at h
        · rename_i r' hr; cases h; exact nil _ _ _ hx hy hr rfl
        · cases h
    · rename_i l m hx hy
      split at h
      · rename_i b hb
        split at h
        · rename_i b' hb'; cases h; exact AOp.eqAgg hT ho hx hy hb hb' hK
        · cases h
      · cases h
    · rename_i d v hne hx hy
      split at h
      · rename_i r' hr; cases h; exact nil _ _ _ hx hy hr rfl
      · cases h
    · cases h
  · rename_i op ty x ho
    split at h
    · rename_i u hx
      split at h
      · rename_i r' hr; cases h; exact AOp.un ho hx hr hK
      · cases h
    · cases h
  · rename_i ty x ho
    split at h
    · rename_i d hx
      obtain ⟨h1, h2⟩ := withσ_some h
      exact AOp.load hT ho hx h1 (h2 ▸ hK)
    · cases h
  · rename_i ty x y ho
    split at h
    · rename_i d e hx hy
      split at h
      · rename_i σ' hs; cases h; exact AOp.store hT ho hx hy hs hK
      · cases h
    · cases h
  · rename_i s x f ho
    split at h
    · rename_i d hx
      obtain ⟨h1, h2⟩ := withσ_some h
      exact AOp.fieldAddr hT ho hx h1 (h2 ▸ hK)
    · cases h
  · rename_i s x f ho
    split at h
    · rename_i d hx
      obtain ⟨h1, h2⟩ := withσ_some h
      exact AOp.field hT ho hx h1 (h2 ▸ hK)
    · cases h
  · rename_i ty x ix ho
    split at h
    · rename_i d k i hx hix
      obtain ⟨h1, h2⟩ := withσ_some h
      exact AOp.indexAddr hT ho hx hix h1 (h2 ▸ hK)
    · cases h
  · rename_i ty x ix ho
    split at h
    · rename_i d k i hx hix
      obtain ⟨h1, h2⟩ := withσ_some h
      exact AOp.index hT ho hx hix h1 (h2 ▸ hK)
    · cases h
  · rename_i e ho
    split at h
    · rename_i ti hti
      split at h
      · rename_i hp; cases h; exact AOp.alloc hT ho hti hp hK
      · cases h
    · cases h
  · rename_i e x ho
    split at h
    · rename_i d hx; exact AOp.box hT ho hx h hK
    · cases h
  · rename_i ty ps ho
    split at h
    · rename_i ds hps
      obtain ⟨h1, h2⟩ := withσ_some h
      exact AOp.build hT ho hps h1 (h2 ▸ hK)
    · cases h
  · rename_i ty len ps ho
    split at h
    · rename_i ds hps; exact AOp.buildSlice hT ho hps h hK
    · cases h
  · rename_i ty x lo hi ho
    split at h
    · rename_i d l hh hx hlo hhi
      obtain ⟨h1, h2⟩ := withσ_some h
      obtain ⟨k1, e1⟩ := evalI_some hlo
      obtain ⟨k2, e2⟩ := evalI_some hhi
      exact AOp.cut hT ho hx e1 e2 h1 (h2 ▸ hK)
    · cases h
  · rename_i ty x lo hi mo ho
    split at h
    · rename_i d l hh k3 mx hx hlo hhi hmo
      obtain ⟨h1, h2⟩ := withσ_some h
      obtain ⟨k1, e1⟩ := evalI_some hlo
      obtain ⟨k2, e2⟩ := evalI_some hhi
      exact AOp.cutM hT ho hx e1 e2 hmo h1 (h2 ▸ hK)
    · cases h
  · rename_i ty l c ho
    split at h
    · rename_i k1 n k2 m hl hc
      unfold makeD at h
      split at h
      · rename_i e s1 b1 z1 hty
        split at h
        · rename_i ei hei
          split at h
          · rename_i hcond
            obtain ⟨hp, h0, hnm, hb⟩ := hcond
            cases h
            obtain ⟨n', rfl⟩ := Int.eq_ofNat_of_zero_le h0
            obtain ⟨m', rfl⟩ := Int.eq_ofNat_of_zero_le (Int.le_trans h0 hnm)
            exact AOp.make hT ho hl hc hty hei hp (by omega) hb hK
          · cases h
        · cases h
      · cases h
    · cases h
  · rename_i src dst x ho
    split at h
    · rename_i d hx
      split at h
      · rename_i r' hr; cases h; exact AOp.mark hT ho hx hr hK
      rename_i hmk
      clear hmk
      obtain ⟨h1, h2⟩ := withσ_some h
      unfold convD at h1
      split at h1
      · rename_i si k' s1 b1 z1 hs hd
        split at h1
        · have := Option.some.inj h1; exact AOp.convInt hT ho hx hs hd (by rw [h2, ← this] at hK; exact hK)
        · cases h1
      · rename_i e s1 b1 z1 s2 b2 z2 hs hd
        split at h1
        · rename_i s3 b3 z3 he
          split at h1
          · rename_i l hl
            split at h1
            · rename_i b hb
              have hbe := unbytes_eq hb
              subst hbe
              have := Option.some.inj h1
              exact AOp.toString hT ho hx hs he hd hl (by rw [h2, ← this] at hK; exact hK)
            · cases h1
          · cases h1
        · cases h1
      · rename_i s1 b1 z1 e s2 b2 z2 hs hd
        split at h1
        · rename_i s3 b3 z3 s he
          split at h1
          · rename_i hsz
            have := Option.some.inj h1
            exact AOp.ofString hT ho hx hs hd he hsz (by rw [h2, ← this] at hK; exact hK)
          · cases h1
        · cases h1
      · cases h1
    · cases h
  · rename_i x ho
    split at h
    · rename_i t i j m hx; cases h; exact AOp.nilCheck ho hx hK
    · rename_i l hx; cases h; exact AOp.nilCheck_ip ho hx hK
    · rename_i ty d hx; cases h; exact AOp.nilCheck_ifc ho hx hK
    · cases h
  · rename_i c ho
    obtain ⟨cal, ⟨as⟩, ⟨tys⟩⟩ := c
    unfold callD at h
    split at h
    · rename_i hcal
      simp only at hcal
      subst hcal
      split at h
      · rename_i x ty hx hty
        simp only at hx hty
        subst hx; subst hty
        split at h
        · rename_i d hx
          split at h
          · rename_i n hn; cases h; exact AOp.len hT ho hx hn hK
          · cases h
        · cases h
      · cases h
    · rename_i hcal
      simp only at hcal
      subst hcal
      split at h
      · rename_i s x ty ty2 hx hty
        simp only at hx hty
        subst hx; subst hty
        split at h
        · rename_i hteq
          subst hteq
          split at h
          · rename_i d e hs hx
            unfold appendX at h
            split at h
            · rename_i r' hr; cases h; exact AOp.append hT ho hs hx hr hK
            · exact AOp.appendP hT ho hs hx h hK
          · cases h
        · cases h
      · cases h
    · rename_i hcal
      simp only at hcal
      subst hcal
      split at h
      · rename_i x ty hx hty
        simp only at hx hty
        subst hx; subst hty
        split at h
        · rename_i d hx
          split at h
          · rename_i σ' hs; cases h; exact AOp.clear hT ho hx hs hK
          · cases h
        · cases h
      · cases h
    · cases h
  · rename_i f first cap ho
    split at h
    · rename_i a b ha hb
      cases h
      exact AOp.makeFunc ho ha hb hK
    · cases h
  · cases h

/-- Is a guarded operation wanted? -/
def gon (ops : Array Oper) (ts : List DV) (g : Option (Nat × Bool)) : Option Bool :=
  match g with
  | none => some true
  | some (j, want) => (match gval ops ts j with | some (some b) => some (if want = true then b else !b) | some none => some false | none => none)
/-- Operations reckoned as far as that goes: those that are left, the slots, the heap. -/
def xstep (T : Tab) (ops : Array Oper) (o : Oper) (ts : List DV) (σ : Heap) : Option (DV × Heap) :=
  match gon ops ts o.guard with
  | some true => aop T o ts σ
  | some false => some (.tup [], σ)
  | none => none
def xlr (T : Tab) (ops : Array Oper) : List Oper → List DV → Heap → List Oper × List DV × Heap
  | [], ts, σ => ([], ts, σ)
  | o :: os, ts, σ => match xstep T ops o ts σ with
    | some r => xlr T ops os (putD ts o.dst r.1) r.2
    | none => (o :: os, ts, σ)
/-- The operations that are left. -/
def AOpsL (P : Program) (ops : Array Oper) (os : List Oper) (ts : List DV) (σ : Heap) (K : List DV → Heap → Prop) : Prop :=
  ∀ i, os = ops.toList.drop i → AOps P ops (List.range' i os.length) ts σ K
def xfin (P : Program) (ops : Array Oper) (r : List Oper × List DV × Heap) (K : List DV → Heap → Prop) : Prop :=
  match r with
  | ([], ts, σ) => K ts σ
  | (os, ts, σ) => AOpsL P ops os ts σ K

theorem drop_head {ops : Array Oper} {os : List Oper} {i : Nat} (he : o :: os = ops.toList.drop i) : ops[i]? = some o ∧ os = ops.toList.drop (i + 1) := by
  constructor
  · have := congrArg (·[0]?) he
    simp only [List.getElem?_cons_zero, List.getElem?_drop, Nat.add_zero] at this
    rw [Array.getElem?_toList] at this; exact this.symm
  · have := congrArg (List.drop 1) he
    rw [List.drop_drop] at this; simpa using this

theorem AOpsL.op {ops : Array Oper} {os : List Oper} {K : List DV → Heap → Prop} (hg : gon ops ts o.guard = some true) (h : AOp P o ts σ (fun x σ' => AOpsL P ops os (putD ts o.dst x) σ' K)) : AOpsL P ops (o :: os) ts σ K := by
  intro i he
  obtain ⟨ho, he'⟩ := drop_head he
  rw [List.length_cons, List.range'_succ]
  refine ⟨o, ho, ?_⟩
  have h' : AOp P o ts σ (fun x σ' => AOps P ops (List.range' (i + 1) os.length) (putD ts o.dst x) σ' K) := h.mono (fun x σ' hh => hh (i + 1) he')
  cases hgd : o.guard with
  | none => exact h'
  | some g =>
    obtain ⟨j, want⟩ := g
    rw [hgd] at hg
    simp only [gon] at hg
    cases hb : gval ops ts j with
    | none => rw [hb] at hg; cases hg
    | some b =>
      rw [hb] at hg
      have hbw : b = some want := by
        cases b with
        | none => simp at hg
        | some b => cases b <;> cases want <;> simp_all
      exact ⟨b, hb, fun _ => h', fun hne => absurd hbw hne⟩
theorem AOpsL.off {ops : Array Oper} {os : List Oper} {K : List DV → Heap → Prop} (hg : gon ops ts o.guard = some false) (h : AOpsL P ops os (putD ts o.dst (.tup [])) σ K) : AOpsL P ops (o :: os) ts σ K := by
  intro i he
  obtain ⟨ho, he'⟩ := drop_head he
  rw [List.length_cons, List.range'_succ]
  refine ⟨o, ho, ?_⟩
  cases hgd : o.guard with
  | none => rw [hgd] at hg; cases hg
  | some g =>
    obtain ⟨j, want⟩ := g
    rw [hgd] at hg
    simp only [gon] at hg
    cases hb : gval ops ts j with
    | none => rw [hb] at hg; cases hg
    | some b =>
      rw [hb] at hg
      have hbw : b ≠ some want := by
        cases b with
        | none => simp
        | some b => cases b <;> cases want <;> simp_all
      exact ⟨b, hb, fun he => absurd he hbw, fun _ => h (i + 1) he'⟩
theorem AOpsL.nil {ops : Array Oper} {K : List DV → Heap → Prop} (h : K ts σ) : AOpsL P ops [] ts σ K := fun i _ => h

theorem xl_sound (hT : TOk P T) {ops : Array Oper} : ∀ {os : List Oper} {ts : List DV} {σ : Heap} {K : List DV → Heap → Prop}, xfin P ops (xlr T ops os ts σ) K → AOpsL P ops os ts σ K
  | [], ts, σ, K, h => AOpsL.nil h
  | o :: os, ts, σ, K, h => by
    unfold xlr at h
    split at h
    · rename_i r hr
      unfold xstep at hr
      split at hr
      · rename_i hg
        exact AOpsL.op hg (aop_sound hT hr (xl_sound hT h))
      · rename_i hg
        cases hr
        exact AOpsL.off hg (xl_sound hT h)
      · cases hr
    · exact h
theorem AW.reg (hT : TOk P T) {id : Nat} {ops : Array Oper} {Q : Exit → List DV → Heap → Prop} (h : xfin P ops (xlr T ops ops.toList ts σ) (Q .normal)) : AW P (.region id ops false) ts σ Q := by
  refine AW.region ?_
  have := xl_sound (P := P) hT h 0 rfl
  rwa [Array.length_toList, ← List.range_eq_range'] at this
/-- A call among operations. -/
theorem AOpsL.call (hT : TOk P T) {ops : Array Oper} {os : List Oper} {K : List DV → Heap → Prop} {cal : Operand} {as : Array Operand} {at_ : Array TypeId} {f : FuncId} {first cap ds : List DV} (hg : gon ops ts o.guard = some true)
    (ho : o.op = .call { callee := .value cal, args := as, argTypes := at_ }) (hc : Cm.eval ts cal = some (.fn (.func f) first cap)) (hf : FnOk P f) (has : evalL ts as.toList = some ds)
    (h : ACalls P f (first ++ ds ++ cap) σ (fun x σ' => xfin P ops (xlr T ops os (putD ts o.dst x) σ') K)) : AOpsL P ops (o :: os) ts σ K :=
  AOpsL.op hg (AOp.call ho hc hf has (h.mono (fun x σ' hh => xl_sound hT hh)))
/-- An operation by a rule of its own. -/
theorem AOpsL.rule (hT : TOk P T) {ops : Array Oper} {os : List Oper} {K : List DV → Heap → Prop} (hg : gon ops ts o.guard = some true) (h : AOp P o ts σ (fun x σ' => xfin P ops (xlr T ops os (putD ts o.dst x) σ') K)) : AOpsL P ops (o :: os) ts σ K :=
  AOpsL.op hg (h.mono (fun x σ' hh => xl_sound hT hh))

theorem AW.cond_true {Q : Exit → List DV → Heap → Prop} {x : Operand} {y z : Code} (hb : Cm.eval ts x = some (.sc (.bool true))) (h : AW P y ts σ Q) : AW P (.cond x y z) ts σ Q := AW.cond hb (fun _ => h) (fun e => by cases e)
theorem AW.cond_false {Q : Exit → List DV → Heap → Prop} {x : Operand} {y z : Code} (hb : Cm.eval ts x = some (.sc (.bool false))) (h : AW P z ts σ Q) : AW P (.cond x y z) ts σ Q := AW.cond hb (fun e => by cases e) (fun _ => h)

/-- What of a function's code is left at its end. -/
def retQ (T : Tab) (fn : Func) (R : DV → Heap → Prop) : Exit → List DV → Heap → Prop
  | .normal, ts, σ => (match resAll T ts σ fn.results.toList with | some x => R x σ | none => False)
  | .ret, ts, σ => (match resAll T ts σ fn.results.toList with | some x => R x σ | none => False)
  | _, _, _ => False
theorem ACalls.code (hT : TOk P T) {f : FuncId} {args : List DV} {R : DV → Heap → Prop} {fn : Func} {code : Code} (hf : P.funcs[f]? = some fn) (hb : fn.body = some code)
    (h : AW P code (args ++ List.replicate (fn.ntmps - args.length) (.tup [])) σ (retQ T fn R)) : ACalls P f args σ R := by
  refine ACalls.body hT hf hb (h.mono (fun e ts σ' hh => ?_))
  cases e with
  | normal =>
    simp only [retQ] at hh
    split at hh
    · exact ⟨.inl rfl, _, by assumption, hh⟩
    · exact hh.elim
  | ret =>
    simp only [retQ] at hh
    split at hh
    · exact ⟨.inr rfl, _, by assumption, hh⟩
    · exact hh.elim
  | _ => exact hh.elim
end
end Go.Proofs.Ytdkhlhfdjggbpaa.Cm
