import Derived.Test.YtdkhlhfdjggbpaaCmOp
set_option linter.unusedVariables false
set_option linter.unusedSimpArgs false
namespace Go.Proofs.Ytdkhlhfdjggbpaa.Cm
open Go.RowKit

section
variable {P : Program} {T : Tab} {o : Oper} {ts : List DV} {σ : Heap} {K : DV → Heap → Prop}

/-- A cut x[lo:hi]. -/
def cutD (T : Tab) (σ : Heap) (ty : TypeId) (x : DV) (lo hi : Option Int) : Option DV :=
  match T ty with
  | some ⟨.slice e, _, _, _⟩ => match T e with
    | some ei => (match x with
      | .sc (.slice none 0 0) => if lo.getD 0 = 0 ∧ hi.getD 0 = 0 then some (.sc (.slice none 0 0)) else none
      | .imm l => if 0 ≤ lo.getD 0 ∧ lo.getD 0 ≤ hi.getD l.length ∧ hi.getD l.length ≤ l.length ∧ (l.all fun el => el.length == ei.size) = true then some (.imm ((l.take (hi.getD l.length).toNat).drop (lo.getD 0).toNat)) else none
      | .sl t off len m => match getO σ t m with
        | some o => match T o.e with
          | some oi => if oi.size = ei.size ∧ 0 ≤ lo.getD 0 ∧ lo.getD 0 ≤ hi.getD len ∧ (hi.getD len ≤ len ∨ (0 < len ∨ off = 0) ∧ off + hi.getD len ≤ m) then some (.sl t (off + (lo.getD 0).toNat) ((hi.getD len - lo.getD 0).toNat) m) else none
          | none => none
        | none => none
      | _ => none)
    | none => none
  | _ => none

theorem cut_run {c : Cf} {ty e : TypeId} {size : Nat} (hty : P.underlying ty = some (.slice e)) (hs : ∀ w, (Go.sizeOf e).run P w = .ok size w) (A : Option Addr) (n cp : Nat) {lo hi : Option Int} {k1 k2 : IntKind} (h0 : 0 ≤ lo.getD 0) (h1 : lo.getD 0 ≤ hi.getD n) (h2 : hi.getD n ≤ cp) (w : World) :
    (Instr.sliceAt ty (.slice A n cp) (lo.map (Value.int k1)) (hi.map (Value.int k2)) none).run P w =
      .ok (.slice (if cp = (lo.getD 0).toNat then A else A.map (·.add ((lo.getD 0).toNat * size))) ((hi.getD n).toNat - (lo.getD 0).toNat) (cp - (lo.getD 0).toNat)) w := by
  have hb : (Instr.sliceBounds true n cp (lo.map (Value.int k1)) (hi.map (Value.int k2)) none).run P w = .ok ((lo.getD 0).toNat, (hi.getD n).toNat, cp) w := by
    cases lo with
    | none =>
      cases hi with
      | none => simp [Instr.sliceBounds]
      | some h =>
        simp only [Option.getD_some, Option.getD_none] at h1 h2
        simp [Instr.sliceBounds, Instr.sliceBound, asIntOf, h1, h2]
    | some l =>
      cases hi with
      | none =>
        simp only [Option.getD_some, Option.getD_none] at h0 h1 h2
        simp [Instr.sliceBounds, Instr.sliceBound, asIntOf, h0, h1]
      | some h =>
        simp only [Option.getD_some] at h0 h1 h2
        have h3 : l ≤ h.toNat := by omega
        have h4 : 0 ≤ h := by omega
        simp [Instr.sliceBounds, Instr.sliceBound, asIntOf, h0, h1, h2, h3, h4]
        intro hh; omega
  simp [Instr.sliceAt, Instr.slice, run_underlying hty, hb, hs]

def optEv (ts : List DV) (k : IntKind) : Option Operand → Option Int → Prop
  | some l, some i => Cm.eval ts l = some (.sc (.int k i))
  | none, none => True
  | _, _ => False
theorem optEv_map {c : Cf} {a : Act} (hTR : TR c ts a) {k : IntKind} : ∀ {lo : Option Operand} {lv : Option Int}, optEv ts k lo lv → lo.map a.eval = lv.map (Value.int k)
  | some l, some i, h => by rw [Option.map_some, Option.map_some, ((hTR.eval h).plain_inv).1]
  | none, none, _ => rfl
  | some _, none, h => h.elim
  | none, some _, h => h.elim

theorem AOp.cut (hT : TOk P T) {ty : TypeId} {x : Operand} {lo hi : Option Operand} {lv hv : Option Int} {k1 k2 : IntKind} {d y : DV} (ho : o.op = .slice ty x lo hi none) (hx : Cm.eval ts x = some d)
    (hl : optEv ts k1 lo lv) (hh : optEv ts k2 hi hv)
    (hy : cutD T σ ty d lv hv = some y) (hK : K y σ) : AOp P o ts σ K := by
  refine AOp.val (fun c hc hσ a hTR => ?_) hK
  subst hσ
  have hlo := optEv_map hTR hl
  have hhi := optEv_map hTR hh
  have hvx := hTR.eval hx
  have hex : ∀ (v r : Value), a.eval x = v → (Instr.sliceAt ty v (lv.map (Value.int k1)) (hv.map (Value.int k2)) none).run P c.w = .ok r c.w → (execOp a.eval o).run P c.w = .ok (.value r) c.w := fun v r h1 h2 => by
    simp only [execOp, ho, h1, hlo, hhi, Option.map_none]
    rw [Sem.run_bind, h2]; rfl
  unfold cutD at hy
  split at hy
  · rename_i e sz by_ ze hty
    have hd := (hT _ _ hty).desc
    simp only [descOk] at hd
    split at hy
    · rename_i ei hei
      have te := hT _ _ hei
      split at hy
      · split at hy
        · rename_i hcond
          cases hy
          obtain ⟨hn, _⟩ := hvx.plain_inv
          have hq0 : hv.getD ((0 : Nat) : Int) = 0 := by simpa using hcond.2
          refine ⟨_, hex _ _ hn (cut_run (c := c) hd te.sizeOf none 0 0 (by omega) (by omega) (by omega) c.w), ?_⟩
          have h1 : (lv.getD 0).toNat = 0 := by omega
          have h2 : (hv.getD ((0 : Nat) : Int)).toNat = 0 := by omega
          rw [h1, h2]
          exact .sc rfl
        · cases hy
      · rename_i l
        split at hy
        · rename_i hcond
          cases hy
          obtain ⟨h0, h1, h2, h3⟩ := hcond
          generalize hax : a.eval x = ax at hvx
          cases hvx with
          | imm hcl hm hsz hul hA hA0 h1c hvv =>
            rename_i sz2 A cp us
            refine ⟨_, hex _ _ hax (cut_run (c := c) hd te.sizeOf A l.length cp h0 h1 (by omega) c.w), ?_⟩
            obtain ⟨p, hp⟩ : ∃ p, (lv.getD 0).toNat = p := ⟨_, rfl⟩
            obtain ⟨q, hq⟩ : ∃ q, (hv.getD (l.length : Int)).toNat = q := ⟨_, rfl⟩
            have hpq : p ≤ q := by omega
            have hql : q ≤ l.length := by omega
            rw [hp, hq]
            have hlen : ((l.take q).drop p).length = q - p := by simp; omega
            rw [← hlen]
            have hmul : p * sz2 ≤ q * sz2 := Nat.mul_le_mul_right _ hpq
            have hmul2 : q * sz2 ≤ l.length * sz2 := Nat.mul_le_mul_right _ hql
            have hszz : l ≠ [] → sz2 = ei.size := fun hne => by
              obtain ⟨el, hel⟩ := List.exists_mem_of_ne_nil l hne
              have := List.all_eq_true.1 h3 el hel
              rw [← hsz el hel]; simpa using this
            refine .imm (sz := sz2) (us := (us.take (q * sz2)).drop (p * sz2)) (by rw [hlen]; omega) (by omega) (fun el hel => hsz el (List.mem_of_mem_take (List.mem_of_mem_drop hel))) (by rw [hlen, Nat.sub_mul]; simp; omega) (fun hne => ?_) (fun hn => ?_) (fun u hu => h1c u (List.mem_of_mem_take (List.mem_of_mem_drop hu))) (fun i j el x u hi hj hu => ?_)
            · have hune : us ≠ [] := by intro e; subst e; simp at hne
              obtain ⟨ad, rfl, hsp, hz, hs⟩ := hA hune
              have hlt : p * sz2 < (us.take (q * sz2)).length := by
                rcases Nat.lt_or_ge (p * sz2) (us.take (q * sz2)).length with h | h
                · exact h
                · exact absurd (List.drop_eq_nil_of_le h) hne
              rw [List.length_take] at hlt
              have hpq2 : p < q := by
                rcases Nat.lt_or_ge p q with h | h
                · exact h
                · have : q * sz2 ≤ p * sz2 := Nat.mul_le_mul_right _ h
                  omega
              have hlne : l ≠ [] := by intro e; subst e; simp at hql; omega
              rw [if_neg (by omega)]
              refine ⟨ad.add (p * ei.size), rfl, by rw [cell_lit (w := c.w) hsp], by rw [Addr.add_block']; exact hz, fun j u hu => ?_⟩
              rw [List.getElem?_drop, List.getElem?_take] at hu
              split at hu
              · have := hs _ u hu
                rw [cell_lit (w := c.w) hsp] at this ⊢
                rw [cell_lit (w := c.w) rfl, ← hszz hlne, Nat.add_assoc]; exact this
              · cases hu
            · have hAn : A = none := by
                split at hn
                · exact hn
                · cases A <;> simp_all
              obtain ⟨e1, e2⟩ := hA0 hAn
              subst e1
              exact ⟨by simp, by omega⟩
            · rw [List.getElem?_drop, List.getElem?_take] at hi
              split at hi
              · rw [List.getElem?_drop, List.getElem?_take] at hu
                split at hu
                · rw [← Nat.add_assoc, ← Nat.add_mul] at hu
                  exact hvv (p + i) j el x u hi hj hu
                · cases hu
              · cases hi
        · cases hy
      · rename_i t off len m
        split at hy
        · rename_i ob hob0
          obtain ⟨hob, hm, hrw⟩ := getO_eq hob0
          split at hy
          · rename_i oi hoi
            split at hy
            · rename_i hcond
              obtain ⟨hsz, h0, h1, h2⟩ := hcond
              cases hy
              obtain ⟨cur, fr, hcur, _, _, hcsz, hcm, hp, hiz, hle, h1c, hes, hcv⟩ := hc.row hob hrw
              have hszz : (c.μ t).sz = ei.size := by
                have := (hT _ _ hoi).isize
                rw [hiz] at this
                have := Option.some.inj this
                omega
              generalize hax : a.eval x = ax at hvx
              cases hvx with
              | sl ht hmm hcl h =>
                rename_i ad cp
                have hG0 : c.G t m = some (c.μ t) := by rw [← hm]; exact Cf.G_of hob hrw
                have h2' : hv.getD (len : Int) ≤ cp := by
                  rcases h2 with h2 | ⟨h2, h3⟩
                  · omega
                  · rcases h _ hG0 with ⟨_, hcap⟩ | ⟨hl0, _, hof⟩ <;> omega
                refine ⟨_, hex _ _ hax (cut_run (c := c) hd te.sizeOf (some ad) len cp h0 h1 h2' c.w), ?_⟩
                obtain ⟨p, hp'⟩ : ∃ p, (lv.getD 0).toNat = p := ⟨_, rfl⟩
                have hlen : (hv.getD (len : Int) - lv.getD 0).toNat = (hv.getD (len : Int)).toNat - (lv.getD 0).toNat := by omega
                rw [hlen, hp']
                have e1 : (if cp = p then some ad else (some ad).map (·.add (p * ei.size))) = some (if cp = p then ad else ad.add (p * ei.size)) := by split <;> rfl
                rw [e1]
                refine .sl ht hmm (by omega) (fun loc hg => ?_)
                have hG : c.G t m = some (c.μ t) := by rw [← hm]; exact Cf.G_of hob hrw
                rw [hG] at hg; cases hg
                rcases h _ hG with ⟨ha, hcap⟩ | ⟨hl0, hc0, hof⟩
                · by_cases hcp : cp = p
                  · rw [if_pos hcp]
                    by_cases hp0 : p = 0
                    · subst hp0
                      exact .inl ⟨by rw [ha, Nat.add_zero], by omega⟩
                    · exact .inr ⟨by omega, by omega, by omega⟩
                  · rw [if_neg hcp]
                    refine .inl ⟨?_, by omega⟩
                    rw [ha, cell_lit (w := c.w) rfl, ← hszz, Nat.add_mul]
                · have hp0 : p = 0 := by omega
                  subst hp0
                  exact .inr ⟨by omega, by omega, by omega⟩
            · cases hy
          · cases hy
        · cases hy
      · cases hy
    · cases hy
  · cases hy

/-- make. -/
theorem AOp.make (hT : TOk P T) {ty e : TypeId} {l cp : Operand} {k1 k2 : IntKind} {n m : Nat} {ei : TI} {sz by_ : Nat} {ze : List Value} (ho : o.op = .makeSlice ty l cp) (hl : Cm.eval ts l = some (.sc (.int k1 n))) (hc : Cm.eval ts cp = some (.sc (.int k2 m)))
    (hty : T ty = some ⟨.slice e, sz, by_, ze⟩) (hei : T e = some ei) (hp : 0 < ei.size) (hnm : n ≤ m) (hb : m * (ei.bytes + 1) ≤ 140737488355328) (hK : K (.sl σ.n 0 n n) (σ.push ⟨List.replicate n (ei.zero.map .sc), e, true⟩)) : AOp P o ts σ K := by
  refine AOp.run (fun c hok hσ a hTR => ?_)
  subst hσ
  have hd := (hT _ _ hty).desc
  simp only [descOk] at hd
  have te := hT _ _ hei
  obtain ⟨i, z, hi, his, hib, hiz, hzc⟩ := te.info
  obtain ⟨h1, _⟩ := (hTR.eval hl).plain_inv
  obtain ⟨h2, _⟩ := (hTR.eval hc).plain_inv
  obtain ⟨hb1, hb2⟩ := bytes_small hb
  have hzs : z.cells.size = ei.size := by rw [← Array.length_toList, hzc, te.len]
  have hr := run_make (P := P) c.w ty e i z hd hi hiz k1 k2 (n : Int) (m : Int) (by omega) (by omega) (by rw [hib]; have h3 : ((ei.bytes * m : Nat) : Int) ≤ 281474976710656 := by { rw [Nat.mul_comm]; omega }; rwa [Int.natCast_mul] at h3) (by simp only [maxLen] at hb1; omega)
  simp only [Int.toNat_natCast] at hr
  obtain ⟨c', hσ', hw', hμ', h1', h2'⟩ := new_row hok te hp (els := List.replicate n (ei.zero.map .sc)) (cs := (madeCells z.cells (m * i.size)).toList) (cap := m) hb1 (by simpa using hnm) (by simp [size_madeCells, his])
    (fun u hu => by
      have := mem_madeCells hu (by omega)
      rw [hzc] at this
      exact plain_oneCell (List.all_eq_true.1 te.plain u this))
    (fun el hel => by rw [List.eq_of_mem_replicate hel]; simp [te.len])
    (fun i' j el x hi' hj => by
      have hil : i' < n := by have := (List.getElem?_eq_some_iff.1 hi').1; simpa using this
      have hel := List.eq_of_mem_replicate (List.mem_of_getElem? hi')
      subst hel
      have hjl : j < ei.zero.length := by have := (List.getElem?_eq_some_iff.1 hj).1; simpa using this
      have hfit : i' * ei.size + j < m * ei.size := by
        have : (i' + 1) * ei.size ≤ m * ei.size := Nat.mul_le_mul_right _ (by omega)
        rw [Nat.add_mul] at this; have := te.len; omega
      refine ⟨ei.zero[j], ?_, V_map _ te.plain j x _ hj (List.getElem?_eq_getElem hjl)⟩
      have hmod : (i' * ei.size + j) % ei.size = j := by
        have := te.len
        rw [Nat.mul_comm, Nat.mul_add_mod, Nat.mod_eq_of_lt (by omega)]
      have hzj : z.cells.toList[j]? = some ei.zero[j] := by rw [hzc]; exact List.getElem?_eq_getElem hjl
      have hjz : j < z.cells.size := by have := te.len; omega
      have hzj2 : z.cells[j]! = ei.zero[j] := by
        rw [getElem!_pos z.cells j hjz]
        have h4 : z.cells.toList[j]? = some z.cells[j] := by simp [hjz]
        rw [h4] at hzj; exact Option.some.inj hzj
      simp only [madeCells, Array.toList_map, Array.toList_range, List.getElem?_map, his]
      rw [List.getElem?_range hfit]
      simp [hzs, hmod, hzj2])
  refine ⟨.slice (some ⟨c.w.heap.size, 0, none⟩) n m, _, c', ?_, h1', h2', ?_, by rw [hσ']; exact hK⟩
  · simp only [execOp, ho, h1, h2]
    rw [Sem.run_bind, hr, hw']; rfl
  · refine .sl (by rw [hσ']; simp) (by rw [Cf.len, hσ', Heap.get_push]; simp) hnm (fun loc hg => .inl ?_)
    simp only [Cf.G, hσ', Heap.get_push, AObj.ln_mk, List.length_replicate, if_true, Option.some.injEq] at hg
    rw [← hg, hμ']; simp

/-- Parts laid into cells. -/
def fillD (place : Nat → Option (Nat × Nat)) (l : List DV) : List (Nat × DV) → Option (List DV)
  | [] => some l
  | (i, x) :: rest => match place i with
    | none => none
    | some (off, size) => if (cellsD x).length = size ∧ off + (cellsD x).length ≤ l.length ∧ (cellsD x).all leaf = true then fillD place (splice l off (cellsD x)) rest else none

theorem fold_splice : ∀ (us : List Value) (off k : Nat) (cs : Array Value), off + k + us.length ≤ cs.size → ((us.zipIdx k).foldl (fun cs (cj : Value × Nat) => cs.setIfInBounds (off + cj.2) cj.1) cs).toList = splice cs.toList (off + k) us
  | [], off, k, cs, h => by simp [splice]
  | u :: us, off, k, cs, h => by
    rw [List.zipIdx_cons, List.foldl_cons, fold_splice us off (k + 1) _ (by simp at h ⊢; omega)]
    have hlt : off + k < cs.toList.length := by simp at h ⊢; omega
    simp only [Array.toList_setIfInBounds]
    apply List.ext_getElem?
    intro j
    rw [splice_get (by simp at h ⊢; omega), splice_get (by simp at h ⊢; omega)]
    simp only [List.length_cons]
    by_cases h1 : j = off + k
    · subst h1
      rw [if_neg (by omega), if_pos (by omega), List.getElem?_set_self hlt, Nat.sub_self]; rfl
    · rw [List.getElem?_set_ne (Ne.symm h1)]
      by_cases h2 : off + k ≤ j ∧ j < off + k + (us.length + 1)
      · rw [if_pos (by omega), if_pos h2]
        have : j - (off + k) = (j - (off + (k + 1))) + 1 := by omega
        rw [this]; rfl
      · rw [if_neg (by omega), if_neg h2]

theorem fill_run {c : Cf} {place : Nat → Option (Nat × Nat)} : ∀ {ps : List (Nat × DV)} {vs : List (Nat × Value)} {l l' : List DV} {cs : Array Value}, fillD place l ps = some l' → FR c l cs.toList → ps.map (·.1) = vs.map (·.1) →
    (∀ (k : Nat) (p : Nat × DV) (v : Nat × Value), ps[k]? = some p → vs[k]? = some v → V c p.2 v.2) → ∃ cs', Instr.fill place cs vs = some cs' ∧ FR c l' cs'.toList
  | [], [], l, l', cs, h, hf, _, _ => by cases h; exact ⟨cs, rfl, hf⟩
  | [], v :: vs, l, l', cs, h, hf, hm, _ => by simp at hm
  | p :: ps, [], l, l', cs, h, hf, hm, _ => by simp at hm
  | (i, x) :: ps, (i', v) :: vs, l, l', cs, h, hf, hm, hv => by
    simp only [List.map_cons, List.cons.injEq] at hm
    obtain ⟨rfl, hm⟩ := hm
    simp only [fillD] at h
    cases hp : place i with
    | none => rw [hp] at h; simp at h
    | some os =>
      obtain ⟨off, size⟩ := os
      rw [hp] at h
      simp only at h
      split at h
      · rename_i hcond
        obtain ⟨h1, h2, h3⟩ := hcond
        have hvx : V c x v := hv 0 (i, x) (i, v) rfl rfl
        have hfx := FR.cells hvx h3
        have hsz : v.cells.size = (cellsD x).length := by have := hfx.len; simpa using this
        have hcs : cs.size = l.length := by have := hf.len; simpa using this
        have hfold := fold_splice v.cells.toList off 0 cs (by simp; omega)
        have hfold2 : (v.cells.zipIdx.foldl (fun cs (cj : Value × Nat) => cs.setIfInBounds (off + cj.2) cj.1) cs).toList = splice cs.toList off v.cells.toList := by
          rw [← Array.foldl_toList, Array.toList_zipIdx]; exact hfold
        obtain ⟨cs', h4, h5⟩ := fill_run (c := c) (place := place) (vs := vs) (cs := v.cells.zipIdx.foldl (fun cs (cj : Value × Nat) => cs.setIfInBounds (off + cj.2) cj.1) cs) h (by rw [hfold2]; exact hf.splice hfx off) hm (fun k p w hk hk' => hv (k + 1) p w (by simpa using hk) (by simpa using hk'))
        refine ⟨cs', ?_, h5⟩
        have hc1 : ¬ (v.cells.size ≠ size ∨ off + v.cells.size > cs.size) := by omega
        unfold Instr.fill
        simp only [hp]
        rw [if_neg (by simpa using hc1)]
        exact h4
      · cases h

def evalParts (ts : List DV) : List (Nat × Operand) → Option (List (Nat × DV))
  | [] => some []
  | (i, x) :: r => match Cm.eval ts x, evalParts ts r with | some d, some l => some ((i, d) :: l) | _, _ => none
theorem evalParts_V {c : Cf} {a : Act} (hTR : TR c ts a) : ∀ {ps : List (Nat × Operand)} {ds : List (Nat × DV)}, evalParts ts ps = some ds → ds.map (·.1) = (ps.map fun p => (p.1, a.eval p.2)).map (·.1) ∧ ∀ (k : Nat) (p : Nat × DV) (v : Nat × Value), ds[k]? = some p → (ps.map fun p => (p.1, a.eval p.2))[k]? = some v → V c p.2 v.2
  | [], ds, h => by cases h; exact ⟨rfl, by simp⟩
  | (i, x) :: r, ds, h => by
    simp only [evalParts] at h
    cases hx : Cm.eval ts x with
    | none => rw [hx] at h; simp at h
    | some d =>
      cases hr : evalParts ts r with
      | none => rw [hx, hr] at h; simp at h
      | some l =>
        rw [hx, hr] at h
        cases h
        obtain ⟨h1, h2⟩ := evalParts_V hTR hr
        refine ⟨by simp only [List.map_cons, h1], fun k p v hp hv => ?_⟩
        cases k with
        | zero => simp at hp hv; subst hp; subst hv; exact hTR.eval hx
        | succ k => exact h2 k p v (by simpa using hp) (by simpa using hv)

/-- A slice literal. -/
def chunk (sz : Nat) : Nat → List DV → List (List DV)
  | 0, _ => []
  | n + 1, l => l.take sz :: chunk sz n (l.drop sz)
theorem chunk_length (sz n : Nat) (l : List DV) : (chunk sz n l).length = n := by
  induction n generalizing l with
  | zero => rfl
  | succ n ih => simp [chunk, ih]
theorem chunk_size {sz : Nat} : ∀ {n : Nat} {l : List DV}, l.length = n * sz → ∀ el ∈ chunk sz n l, el.length = sz
  | 0, l, h, el, hel => by simp [chunk] at hel
  | n + 1, l, h, el, hel => by
    rw [Nat.add_mul] at h
    simp only [chunk, List.mem_cons] at hel
    rcases hel with rfl | hel
    · simp; omega
    · exact chunk_size (by simp; omega) el hel
theorem chunk_flat {sz : Nat} : ∀ {n : Nat} {l : List DV}, l.length = n * sz → (chunk sz n l).flatten = l
  | 0, l, h => by simp at h; subst h; rfl
  | n + 1, l, h => by
    rw [Nat.add_mul] at h
    simp only [chunk, List.flatten_cons]
    rw [chunk_flat (by simp; omega), List.take_append_drop]

def flatZero (ti : TI) : Nat → List DV
  | 0 => []
  | n + 1 => ti.zero.map .sc ++ flatZero ti n
theorem flatZero_length {P : Program} {t : TypeId} {ti : TI} (h : TIOk P t ti) (n : Nat) : (flatZero ti n).length = n * ti.size := by
  induction n with
  | zero => simp [flatZero]
  | succ n ih => simp [flatZero, ih, h.len, Nat.add_mul]; omega
theorem flatZero_FR {P : Program} {c : Cf} {t : TypeId} {ti : TI} (h : TIOk P t ti) {z : Value} (hz : z.cells.toList = ti.zero) (hp : 0 < ti.size) (n : Nat) : FR c (flatZero ti n) ((Array.range (n * ti.size)).map (z.cells[· % z.cells.size]!)).toList := by
  have hzs : z.cells.size = ti.size := by rw [← Array.length_toList, hz, h.len]
  have hget : ∀ j, j < ti.size → z.cells[j]! = ti.zero.getD j undef := fun j hj => by
    rw [getElem!_pos z.cells j (by omega)]
    have h4 : z.cells.toList[j]? = some z.cells[j] := by simp [show j < z.cells.size by omega]
    rw [hz] at h4
    simp [List.getD, h4]
  have hl : ((Array.range (n * ti.size)).map (z.cells[· % z.cells.size]!)).toList = (List.range (n * ti.size)).map (fun k => ti.zero.getD (k % ti.size) undef) := by
    simp only [Array.toList_map, Array.toList_range]
    refine List.map_congr_left (fun k hk => ?_)
    rw [hzs, hget _ (Nat.mod_lt _ hp)]
  have hf : ∀ n, flatZero ti n = ((List.range (n * ti.size)).map (fun k => ti.zero.getD (k % ti.size) undef)).map DV.sc := fun n => by
    induction n with
    | zero => simp [flatZero]
    | succ n ih =>
      rw [flatZero, ih, Nat.add_mul, Nat.one_mul, Nat.add_comm (n * ti.size), List.range_add, List.map_append, List.map_append]
      congr 1
      · apply List.ext_getElem?
        intro j
        simp only [List.getElem?_map]
        by_cases hj : j < ti.size
        · rw [List.getElem?_range hj]
          have hjl : j < ti.zero.length := by rw [h.len]; exact hj
          simp [List.getElem?_eq_getElem hjl, Nat.mod_eq_of_lt hj, List.getD]
        · rw [List.getElem?_eq_none (by rw [h.len]; omega), List.getElem?_eq_none (by simp; omega)]; rfl
      · simp [List.map_map, Function.comp_def]
  rw [hl, hf n]
  refine FR.plain (List.all_eq_true.2 (fun u hu => ?_))
  simp only [List.mem_map, List.mem_range] at hu
  obtain ⟨k, _, rfl⟩ := hu
  have hlt : k % ti.size < ti.zero.length := by rw [h.len]; exact Nat.mod_lt _ hp
  simp only [List.getD, List.getElem?_eq_getElem hlt, Option.getD_some]
  exact List.all_eq_true.1 h.plain _ (List.getElem_mem hlt)

def buildSliceD (T : Tab) (σ : Heap) (ty : TypeId) (len : Nat) (ps : List (Nat × DV)) : Option (DV × Heap) :=
  match T ty with
  | some ⟨.slice e, _, _, _⟩ => match T e with
    | some ei => if 0 < ei.size ∧ len * ei.size ≤ 16777216 then (match fillD (fun i => some (i * ei.size, ei.size)) (flatZero ei len) ps with
      | some l => some (.sl σ.n 0 len len, σ.push ⟨chunk ei.size len l, e, true⟩)
      | none => none) else none
    | none => none
  | _ => none
theorem fillD_length {place : Nat → Option (Nat × Nat)} : ∀ {ps : List (Nat × DV)} {l l' : List DV}, fillD place l ps = some l' → l'.length = l.length
  | [], l, l', h => by cases h; rfl
  | (i, x) :: ps, l, l', h => by
    simp only [fillD] at h
    split at h
    · cases h
    · split at h
      · rename_i hcond
        rw [fillD_length h, splice_length hcond.2.1]
      · cases h

theorem AOp.buildSlice (hT : TOk P T) {ty : TypeId} {len : Nat} {ps : Array (Nat × Operand)} {ds : List (Nat × DV)} {r : DV × Heap} (ho : o.op = .buildSlice ty len ps) (hps : evalParts ts ps.toList = some ds) (hr : buildSliceD T σ ty len ds = some r) (hK : K r.1 r.2) : AOp P o ts σ K := by
  refine AOp.run (fun c hc hσ a hTR => ?_)
  subst hσ
  unfold buildSliceD at hr
  split at hr
  · rename_i e sz by_ ze hty
    have hd := (hT _ _ hty).desc
    simp only [descOk] at hd
    split at hr
    · rename_i ei hei
      have te := hT _ _ hei
      split at hr
      · rename_i hcond
        split at hr
        · rename_i l hl
          cases hr
          obtain ⟨z, hz, hzc⟩ := te.zeroV c.w
          obtain ⟨hm, hv⟩ := evalParts_V hTR hps
          have h0 := flatZero_FR (P := P) (c := c) te hzc hcond.1 len
          obtain ⟨cs, hf, hfr⟩ := fill_run (vs := ps.toList.map fun p => (p.1, a.eval p.2)) hl h0 hm hv
          have hll : l.length = len * ei.size := by rw [fillD_length hl, flatZero_length te]
          obtain ⟨c', hσ', hw', hμ', h1', h2'⟩ := new_row hc te hcond.1 (els := chunk ei.size len l) (cs := cs.toList) (cap := len) (by
              have : len ≤ len * ei.size := Nat.le_mul_of_pos_right _ hcond.1
              simp only [maxLen]; omega) (by rw [chunk_length]; exact Nat.le_refl _) (by rw [hfr.len, hll]) hfr.one (chunk_size hll)
            (fun i j el x hi hj => FR.els (by rw [chunk_flat hll]; exact hfr) (chunk_size hll) i j el x hi hj)
          refine ⟨.slice (some ⟨c.w.heap.size, 0, none⟩) len len, _, c', ?_, h1', h2', ?_, by rw [hσ']; exact hK⟩
          · have hpe : (ps.map fun x => (x.1, a.eval x.2)).toList = ps.toList.map fun p => (p.1, a.eval p.2) := by simp
            have hfill : Instr.fill (fun i => some (i * ei.size, ei.size)) ((Array.range (len * ei.size)).map (z.cells[· % z.cells.size]!)) (ps.map fun x => (x.1, a.eval x.2)).toList = some cs := by rw [hpe]; exact hf
            have hbs : (Instr.buildSlice ty len (ps.map fun x => (x.1, a.eval x.2))).run P c.w = .ok (.slice (some ⟨c.w.heap.size, 0, none⟩) len len) c'.w := by
              have hsm : ¬ (len * ei.size > 2 ^ 24) := by omega
              rw [hw']
              by_cases hl0 : len * ei.size = 0
              · have hz0 : ∀ f : Nat → Value, (Array.range (len * ei.size)).map f = #[] := fun f => by rw [hl0, Array.range_zero', Array.map_empty]
                rw [hz0] at hfill
                simp only [Instr.buildSlice, Sem.run_bind, run_underlying hd, Result.andThen_ok, te.sizeOf, hsm, if_false, Sem.run_pure, hl0, if_true]
                simp only [Array.range_zero', Array.map_empty]
                rw [hfill]
                simp [newRow]
              · simp only [Instr.buildSlice, Sem.run_bind, run_underlying hd, Result.andThen_ok, te.sizeOf, hsm, if_false, Sem.run_pure, hl0, hz]
                rw [hfill]
                simp [newRow]
            simp only [execOp, ho]
            rw [Sem.run_bind, hbs]; rfl
          · refine .sl (by rw [hσ']; simp) (by rw [Cf.len, hσ', Heap.get_push]; simp [chunk_length]) (Nat.le_refl _) (fun loc hg => .inl ?_)
            simp only [Cf.G, hσ', Heap.get_push, AObj.ln_mk, chunk_length, if_true, Option.some.injEq] at hg
            rw [← hg, hμ']; simp
        · cases hr
      · cases hr
    · cases hr
  · cases hr
end
end Go.Proofs.Ytdkhlhfdjggbpaa.Cm
