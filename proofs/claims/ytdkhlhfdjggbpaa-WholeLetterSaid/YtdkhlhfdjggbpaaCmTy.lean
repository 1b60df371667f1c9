import Derived.Test.YtdkhlhfdjggbpaaCmEq
set_option linter.unusedVariables false
set_option linter.unusedSimpArgs false
namespace Go.Proofs.Ytdkhlhfdjggbpaa.Cm
open Go.RowKit

inductive TK where
  | int (k : IntKind)
  | bool
  | string
  | slice (e : TypeId)
  | struct (fs : List (Nat × TypeId)) (cmp : Bool)
  | array (n : Nat) (e : TypeId) (cmp : Bool)
  | pointer (e : TypeId)
  | func
  | iface
  | map (k e : TypeId)
  | other
structure TI where
  k : TK
  size : Nat
  bytes : Nat
  zero : List Value
def TI.isAgg (t : TI) : Bool := match t.k with | .struct .. | .array .. => true | _ => false
/-- May it be compared, as plain values? -/
def TI.cmp (t : TI) : Bool := match t.k with | .struct _ c => c | .array _ _ c => c | _ => false

def descOk (P : Program) (t : TypeId) : TK → Prop
  | .int k => P.underlying t = some (.int k)
  | .bool => P.underlying t = some .bool
  | .string => P.underlying t = some .string
  | .slice e => P.underlying t = some (.slice e)
  | .struct fs _ => ∃ F, P.underlying t = some (.struct F) ∧ F.toList.map (fun f => (f.offset, f.type)) = fs
  | .array n e _ => P.underlying t = some (.array n e)
  | .pointer e => P.underlying t = some (.pointer e)
  | .func => ∃ a b c, P.underlying t = some (.func a b c)
  | .iface => ∃ ms, P.underlying t = some (.interface ms)
  | .map k e => P.underlying t = some (.map k e)
  | .other => ∃ d, P.underlying t = some d ∧ (∀ F, d ≠ .struct F) ∧ (∀ n e, d ≠ .array n e)

structure TIOk (P : Program) (t : TypeId) (ti : TI) : Prop where
  info : ∃ i z, P.info? t = some i ∧ i.size = ti.size ∧ i.bytes = ti.bytes ∧ i.zero = some z ∧ z.cells.toList = ti.zero
  plain : ti.zero.all plain = true
  len : ti.zero.length = ti.size
  desc : descOk P t ti.k
  cmpOk : ti.cmp = true → cmpB P 20 t ti.zero = true ∧ P.eqGuardType P.depth t = false

/-- A table of types. -/
abbrev Tab := TypeId → Option TI
def TOk (P : Program) (T : Tab) : Prop := ∀ t ti, T t = some ti → TIOk P t ti

def peq : Value → Value → Bool
  | .bool a, .bool b => a == b
  | .int k a, .int k' b => k == k' && a == b
  | .string a, .string b => a.data == b.data
  | .pointer none, .pointer none => true
  | .slice none 0 0, .slice none 0 0 => true
  | .nilFunc, .nilFunc => true
  | .nilIface, .nilIface => true
  | .map none, .map none => true
  | _, _ => false
theorem peq_eq {a b : Value} (h : peq a b = true) : a = b ∧ Cm.plain a = true := by
  unfold peq at h
  split at h <;> simp_all [Cm.plain]
  rename_i a b
  cases a; cases b; simp_all
def listPeq : List Value → List Value → Bool
  | [], [] => true
  | a :: l, b :: m => peq a b && listPeq l m
  | _, _ => false
theorem listPeq_eq : ∀ {l m : List Value}, listPeq l m = true → l = m ∧ l.all Cm.plain = true
  | [], [], _ => ⟨rfl, rfl⟩
  | a :: l, b :: m, h => by
    simp only [listPeq, Bool.and_eq_true] at h
    obtain ⟨e, p⟩ := peq_eq h.1
    obtain ⟨e2, p2⟩ := listPeq_eq h.2
    exact ⟨by rw [e, e2], by rw [List.all_cons, p, p2]; rfl⟩
  | [], _ :: _, h => by simp [listPeq] at h
  | _ :: _, [], h => by simp [listPeq] at h
def fieldsPeq : List Field → List (Nat × TypeId) → Bool
  | [], [] => true
  | a :: l, b :: m => a.offset == b.1 && a.type == b.2 && fieldsPeq l m
  | _, _ => false
theorem fieldsPeq_eq : ∀ {l : List Field} {m : List (Nat × TypeId)}, fieldsPeq l m = true → l.map (fun f => (f.offset, f.type)) = m
  | [], [], _ => rfl
  | a :: l, b :: m, h => by
    simp only [fieldsPeq, Bool.and_eq_true, beq_iff_eq] at h
    rw [List.map_cons, fieldsPeq_eq h.2, h.1.1, h.1.2]
  | [], _ :: _, h => by simp [fieldsPeq] at h
  | _ :: _, [], h => by simp [fieldsPeq] at h
def descB (P : Program) (t : TypeId) (k : TK) : Bool :=
  match k, P.underlying t with
  | .int k, some (.int k') => k == k'
  | .bool, some .bool => true
  | .string, some .string => true
  | .slice e, some (.slice e') => e == e'
  | .struct fs _, some (.struct F) => fieldsPeq F.toList fs
  | .array n e _, some (.array n' e') => n == n' && e == e'
  | .pointer e, some (.pointer e') => e == e'
  | .func, some (.func ..) => true
  | .iface, some (.interface _) => true
  | .map k e, some (.map k' e') => k == k' && e == e'
  | .other, some d => match d with | .struct _ => false | .array .. => false | _ => true
  | _, _ => false
theorem descB_ok {P : Program} {t : TypeId} {k : TK} (h : descB P t k = true) : descOk P t k := by
  unfold descB at h
  split at h <;> simp_all [descOk]
  · rename_i h1 _ ; exact fieldsPeq_eq h
  · rename_i d _ _
    exact ⟨fun F e => by subst e; simp at h, fun n e e2 => by subst e2; simp at h⟩
def tiB (P : Program) (e : TypeId × TI) : Bool :=
  (match P.info? e.1 with
    | some i => i.size == e.2.size && i.bytes == e.2.bytes && (match i.zero with | some z => listPeq z.cells.toList e.2.zero | none => false)
    | none => false) && e.2.zero.length == e.2.size && descB P e.1 e.2.k && (!e.2.cmp || (cmpB P 20 e.1 e.2.zero && !P.eqGuardType P.depth e.1))
theorem tiB_ok {P : Program} {e : TypeId × TI} (h : tiB P e = true) : TIOk P e.1 e.2 := by
  unfold tiB at h
  rw [Bool.and_eq_true, Bool.and_eq_true, Bool.and_eq_true] at h
  obtain ⟨⟨⟨h1, h2⟩, h3⟩, hcm⟩ := h
  have hcm' : e.2.cmp = true → cmpB P 20 e.1 e.2.zero = true ∧ P.eqGuardType P.depth e.1 = false := fun hc => by rw [hc] at hcm; simpa using hcm
  split at h1
  · rename_i i hi
    rw [Bool.and_eq_true, Bool.and_eq_true] at h1
    obtain ⟨⟨h4, h5⟩, h6⟩ := h1
    split at h6
    · rename_i z hz
      obtain ⟨e1, e2⟩ := listPeq_eq h6
      exact ⟨⟨i, z, hi, by simpa using h4, by simpa using h5, hz, e1⟩, by rw [← e1]; exact e2, by simpa using h2, descB_ok h3, hcm'⟩
    · cases h6
  · cases h1
section
variable {P : Program} {t : TypeId} {ti : TI}
theorem TIOk.agg (h : TIOk P t ti) (w : World) : (isAgg t).run P w = .ok ti.isAgg w := by
  have hd := h.desc
  unfold TI.isAgg
  cases hk : ti.k with
  | other =>
    rw [hk] at hd
    obtain ⟨d, hd, h1, h2⟩ := hd
    simp only [isAgg, Sem.run_bind, run_underlying hd, Result.andThen_ok]
    cases d <;> simp_all
  | struct fs =>
    rw [hk] at hd
    obtain ⟨F, hF, _⟩ := hd
    simp [isAgg, run_underlying hF]
  | func =>
    rw [hk] at hd
    obtain ⟨a, b, c, hF⟩ := hd
    simp [isAgg, run_underlying hF]
  | iface =>
    rw [hk] at hd
    obtain ⟨a, hF⟩ := hd
    simp [isAgg, run_underlying hF]
  | _ => rw [hk] at hd; simp [isAgg, run_underlying hd]
theorem TIOk.sizeOf (h : TIOk P t ti) (w : World) : (Go.sizeOf t).run P w = .ok ti.size w := by
  obtain ⟨i, z, hi, hs, _⟩ := h.info
  simp [Go.sizeOf, typeInfo, hi, hs]
theorem TIOk.isize (h : TIOk P t ti) : (P.info? t).map (·.size) = some ti.size := by
  obtain ⟨i, z, hi, hs, _⟩ := h.info
  simp [hi, hs]
theorem TIOk.zeroV (h : TIOk P t ti) (w : World) : ∃ z, (zeroValue t).run P w = .ok z w ∧ z.cells.toList = ti.zero := by
  obtain ⟨i, z, hi, hs, hb, hz, hc⟩ := h.info
  exact ⟨z, by simp [zeroValue, typeInfo, hi, hz], hc⟩
end

theorem plain_oneCell {v : Value} (h : plain v = true) : v.oneCell' = true := by
  unfold plain at h; split at h <;> first | rfl | cases h
def leaf : DV → Bool
  | .agg _ | .tup _ | .any => false
  | _ => true
theorem V.leaf {c : Cf} {x : DV} {v : Value} (h : V c x v) (hl : leaf x = true) : v.oneCell' = true := by
  cases h with
  | sc h => exact plain_oneCell h
  | agg => cases hl
  | tup => cases hl
  | any => cases hl
  | _ => rfl
theorem V.cells {c : Cf} {x : DV} {v : Value} (h : V c x v) (hl : Cm.leaf x = true) : v.cells = #[v] := by
  have := h.leaf hl
  cases v <;> first | rfl | cases this

/-- An object's cells, by one name. -/
def getO (σ : Heap) (t m : Nat) : Option AObj := match σ.get t with | some o => if o.els.length = m ∧ o.own.isSome = true then some o else none | none => none
theorem getO_eq {σ : Heap} {t m : Nat} {o : AObj} (h : getO σ t m = some o) : σ.get t = some o ∧ o.els.length = m ∧ o.own.isSome = true := by
  unfold getO at h
  split at h
  · split at h
    · rename_i hh; cases h; exact ⟨by assumption, hh.1, hh.2⟩
    · cases h
  · cases h

/-- The memory behind a told address. -/
def memD (σ : Heap) : DV → Option (List DV)
  | .ptr t i j m => match getO σ t m with
    | some o => match o.els[i]? with | some el => some (el.drop j) | none => none
    | none => none
  | .ip l => some l
  | _ => none

theorem cell_lit {w : World} {a : Addr} (ha : a.spot = none) (n : Nat) : a.add n = ⟨a.block, a.off + n, none⟩ := by
  unfold Addr.add
  split
  · rename_i h; subst h; cases a; simp_all
  · rfl

theorem memD_reads {P : Program} {c : Cf} (hok : Ok P c) {x : DV} {v : Value} {l : List DV} (hv : V c x v) (hm : memD c.σ x = some l) :
    ∃ a, v = .pointer (some a) ∧ a.spot = none ∧ ∃ us : List Value, us.length = l.length ∧ (∀ j u, us[j]? = some u → c.w.cell? (a.add j) = some u) ∧ (∀ u ∈ us, u.oneCell' = true) ∧
      (∀ (j : Nat) (x : DV) (u : Value), l[j]? = some x → us[j]? = some u → V c x u) := by
  cases hv with
  | ip hl hz hs ha h1 hv =>
    simp only [memD, Option.some.injEq] at hm
    subst hm
    exact ⟨_, rfl, ha, _, hl, hs, h1, hv⟩
  | ptr ht hmm h =>
    rename_i t i j m a
    simp only [memD] at hm
    split at hm
    · rename_i o ho
      obtain ⟨ho, hm2, hrw⟩ := getO_eq ho
      split at hm
      · rename_i el hel
        cases hm
        have hG : c.G t m = some (c.μ t) := by rw [← hm2]; exact Cf.G_of ho hrw
        have ha := h _ hG
        obtain ⟨cur, fr, hc, _, _, hcs, _, hp, _, hle, h1, hes, hcv⟩ := hok.row ho hrw
        have hel1 : el.length = (c.μ t).sz := hes el (List.mem_of_getElem? hel)
        have hi : i < o.els.length := (List.getElem?_eq_some_iff.1 hel).1
        have hfit : i * (c.μ t).sz + (c.μ t).sz ≤ cur.size := by
          rw [hcs]
          have : (i + 1) * (c.μ t).sz ≤ (c.μ t).cap * (c.μ t).sz := Nat.mul_le_mul_right _ (by omega)
          rw [Nat.add_mul] at this; omega
        refine ⟨a, rfl, by rw [ha], (cur.toList.drop (i * (c.μ t).sz + j)).take (el.length - j), by simp; omega, fun k u hu => ?_, fun u hu => ?_, fun k x u hx hu => ?_⟩
        · rw [ha, cell_lit (w := c.w) rfl]
          rw [cell_of_row c.w _ _ cur _ fr hc]
          rw [List.getElem?_take] at hu
          split at hu
          · rw [List.getElem?_drop] at hu; simpa using hu
          · cases hu
        · exact h1 u (List.mem_of_mem_drop (List.mem_of_mem_take hu))
        · rw [List.getElem?_drop] at hx
          obtain ⟨u', hu', hv'⟩ := hcv i (j + k) el x hel hx
          have : u = u' := by
            rw [List.getElem?_take] at hu
            split at hu
            · rw [List.getElem?_drop] at hu
              rw [← Nat.add_assoc] at hu'
              simp at hu hu'
              rw [hu] at hu'
              exact Option.some.inj hu'
            · cases hu
          subst this; exact hv'
      · cases hm
    · cases hm
  | sc hp =>
    simp [memD] at hm
  | _ => simp [memD] at hm

/-- A load. -/
def loadD (T : Tab) (σ : Heap) (ty : TypeId) (x : DV) : Option DV :=
  match memD σ x, T ty with
  | some l, some ti => if ti.isAgg then (if ti.size ≤ l.length then some (.agg (l.take ti.size)) else none) else l[0]?
  | _, _ => none

theorem loadVar_run {P : Program} {T : Tab} (hT : TOk P T) {c : Cf} (hok : Ok P c) {x y : DV} {v : Value} {ty : TypeId} (hv : V c x v) (hl : loadD T c.σ ty x = some y) :
    ∃ a, v = .pointer (some a) ∧ ∃ u, (loadVar ty a).run P c.w = .ok u c.w ∧ V c y u := by
  unfold loadD at hl
  split at hl
  · rename_i l ti hm hti
    have hti := hT _ _ hti
    obtain ⟨a, rfl, hsp, us, hus, hcells, h1, hvs⟩ := memD_reads hok hv hm
    refine ⟨a, rfl, ?_⟩
    split at hl
    · rename_i hag
      split at hl
      · rename_i hle
        cases hl
        have hlc := run_loadCells_list (P := P) c.w a (us.take ti.size) (fun j v hj => hcells j v (by rw [List.getElem?_take] at hj; split at hj; exact hj; cases hj))
        have hlen : (us.take ti.size).length = ti.size := by rw [List.length_take]; omega
        rw [hlen] at hlc
        refine ⟨.agg (us.take ti.size).toArray, by simp [loadVar, hti.agg, hag, hti.sizeOf, hlc], V.agg (by simp; omega) (fun j x u hx hu => ?_)⟩
        rw [List.getElem?_take] at hx hu
        split at hx
        · rename_i hj; rw [if_pos hj] at hu; exact hvs j x u hx hu
        · cases hx
      · cases hl
    · rename_i hag
      have hlt : 0 < us.length := by rw [hus]; exact (List.getElem?_eq_some_iff.1 hl).1
      have h0 := hcells 0 _ (List.getElem?_eq_getElem hlt)
      rw [Addr.add_zero'] at h0
      refine ⟨us[0], ?_, hvs 0 y _ hl (List.getElem?_eq_getElem hlt)⟩
      have : ti.isAgg = false := by simpa using hag
      simp [loadVar, hti.agg, this, h0]
  · cases hl

theorem AOp.load {P : Program} {T : Tab} (hT : TOk P T) {o : Oper} {ts : List DV} {σ : Heap} {K : DV → Heap → Prop} {ty : TypeId} {x : Operand} {d y : DV} (ho : o.op = .load ty x) (hx : Cm.eval ts x = some d) (hl : loadD T σ ty d = some y)
    (hK : K y σ) : AOp P o ts σ K := by
  refine AOp.val (fun c hc hσ a hTR => ?_) hK
  subst hσ
  have hv := hTR.eval hx
  obtain ⟨ad, he, u, hr, hu⟩ := loadVar_run hT hc hv hl
  refine ⟨u, ?_, hu⟩
  simp [execOp, ho, Instr.loadAt, he, Instr.sureAddr, hr]
end Go.Proofs.Ytdkhlhfdjggbpaa.Cm
