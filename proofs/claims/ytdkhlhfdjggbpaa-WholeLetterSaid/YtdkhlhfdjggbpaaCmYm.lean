/- A row that is cut to its own length: b[:len(b):len(b)], and what is appended to it. -/
import Derived.Test.YtdkhlhfdjggbpaaCmYl
namespace Go.Proofs.Ytdkhlhfdjggbpaa.Cm
open Go.RowKit
set_option linter.unusedVariables false
set_option linter.unusedSimpArgs false
set_option maxRecDepth 20000
set_option maxHeartbeats 8000000
section
variable {P : Program} {T : Tab} {o : Oper} {ts : List DV} {σ : Heap} {K : DV → Heap → Prop}
theorem AOp.cutFull (hT : TOk P T) {ty e : TypeId} {x ho mo : Operand} {k2 k3 : IntKind} {l : List (List DV)} {n : Int} {sz by_ : Nat} {ze : List Value} {ei : TI} (hop : o.op = .slice ty x none (some ho) (some mo)) (hx : Cm.eval ts x = some (.imm l)) (hh : Cm.eval ts ho = some (.sc (.int k2 n))) (hm : Cm.eval ts mo = some (.sc (.int k3 n))) (hn : n = l.length)
    (hty : T ty = some ⟨.slice e, sz, by_, ze⟩) (hei : T e = some ei) (hall : (l.all fun el => el.length == ei.size) = true) (hK : K (.full l) σ) : AOp P o ts σ K := by
  refine AOp.val (fun c hc hσ a hTR => ?_) hK
  subst hσ
  obtain ⟨hho, _⟩ := (hTR.eval hh).plain_inv
  obtain ⟨hmo, _⟩ := (hTR.eval hm).plain_inv
  have hvx := hTR.eval hx
  have hd := (hT _ _ hty).desc
  simp only [descOk] at hd
  have te := hT _ _ hei
  generalize hax : a.eval x = ax at hvx
  have hvx' := hvx
  cases hvx with
  | imm hcl hm2 hsz hul hA hA0 h1c hvv =>
    rename_i sz2 A cp us
    have h0 : (0 : Int) ≤ n := by omega
    have h1 : n ≤ cp := by omega
    have h6 : max n 0 = n := Int.max_eq_left h0
    have hnn : n.toNat = l.length := by omega
    have hb : (Instr.sliceBounds true l.length cp none (some (Value.int k2 n)) (some (.int k3 n))).run P c.w = .ok (0, n.toNat, n.toNat) c.w := by
      simp [Instr.sliceBounds, Instr.sliceBound, asIntOf, h0, h1, h6]
    have hrun : (Instr.sliceAt ty (.slice A l.length cp) none (some (Value.int k2 n)) (some (.int k3 n))).run P c.w = .ok (.slice (if l.length = 0 then A else A.map (·.add (0 * ei.size))) l.length l.length) c.w := by
      rw [hnn] at hb
      simp [Instr.sliceAt, Instr.slice, run_underlying hd, hb, te.sizeOf]
    refine ⟨.slice (if l.length = 0 then A else A.map (·.add (0 * ei.size))) l.length l.length, ?_, ?_⟩
    · simp only [execOp, hop, hax, hho, hmo, Option.map_none, Option.map_some]
      rw [Sem.run_bind, hrun]; rfl
    · refine .full ?_
      have hszz : l ≠ [] → sz2 = ei.size := fun hne => by
        obtain ⟨el, hel⟩ := List.exists_mem_of_ne_nil l hne
        have := List.all_eq_true.1 hall el hel
        rw [← hsz el hel]; simpa using this
      refine .imm (sz := sz2) (us := us) (Nat.le_refl _) (by omega) hsz hul (fun hne => ?_) (fun e => ?_) h1c hvv
      · obtain ⟨ad, rfl, hsp, hz, hs2⟩ := hA hne
        have hl0 : l.length ≠ 0 := fun e => by rw [e] at hul; simp at hul; exact hne hul
        rw [if_neg hl0]
        refine ⟨ad.add (0 * ei.size), rfl, by rw [cell_lit (w := c.w) hsp], by rw [Addr.add_block']; exact hz, fun j u hu => ?_⟩
        have := hs2 _ u hu
        rw [cell_lit (w := c.w) hsp] at this ⊢
        rw [cell_lit (w := c.w) rfl]; simpa using this
      · by_cases hl0 : l.length = 0
        · exact ⟨List.eq_nil_of_length_eq_zero hl0, hl0⟩
        · rw [if_neg hl0] at e
          have hAn : A = none := by cases A <;> simp_all
          have := (hA0 hAn).1
          exact absurd (by rw [this]; rfl) hl0
theorem AOp.appendFull (hT : TOk P T) {ty e : TypeId} {s x : Operand} {d : DV} {l l2 : List (List DV)} {sz by_ : Nat} {ze : List Value} {ei : TI} (hop : o.op = .call { callee := .builtin .append, args := #[s, x], argTypes := #[ty, ty] })
    (hs : Cm.eval ts s = some (.full l)) (hx : Cm.eval ts x = some d) (hsl : sliceD σ d = some l2) (hty : T ty = some ⟨.slice e, sz, by_, ze⟩) (hei : T e = some ei) (hp : 0 < ei.size) (hall1 : (l.all fun el => el.length == ei.size) = true) (hall : (l2.all fun el => el.length == ei.size) = true)
    (h1 : 0 < l.length) (h2 : 0 < l2.length) (hby : (l.length + l2.length) * (ei.bytes + 1) ≤ 140737488355328) (hK : K (.sl σ.n 0 (l.length + l2.length) (l.length + l2.length)) (σ.push ⟨l ++ l2, e, true⟩)) : AOp P o ts σ K := by
  refine AOp.run (fun c hc hσ a hTR => ?_)
  subst hσ
  have hvs := hTR.eval hs
  have hvx := hTR.eval hx
  have hd := (hT _ _ hty).desc
  simp only [descOk] at hd
  have ht := hT _ _ hei
  obtain ⟨i, z, hi, hisz, hiby, hiz, hzc⟩ := ht.info
  have hall1 : ∀ el ∈ l, el.length = ei.size := fun el hel => by simpa using List.all_eq_true.1 hall1 el hel
  have hall : ∀ el ∈ l2, el.length = ei.size := fun el hel => by simpa using List.all_eq_true.1 hall el hel
  obtain ⟨A, cp, us, hxe, hlc, hcm, hul, hcells, hAn, hfr⟩ := slice_reads hc hvx hsl hall
  have hune : us ≠ [] := (fun e => by rw [e] at hul; have := Nat.mul_pos h2 hp; simp at hul; omega)
  obtain ⟨ad, rfl, hsp, hcell⟩ := hcells hune
  have hz1 : ∀ n, ∀ u ∈ (Builtin.zeroCells z.cells n).toList, u.oneCell' = true := fun n u hu => by
    have := mem_zeroCells hu
    rw [hzc] at this
    exact plain_oneCell (List.all_eq_true.1 ht.plain u this)
  generalize hsv : a.eval s = sv at hvs
  cases hvs with
  | full hv =>
    rename_i A0
    obtain ⟨A1, cp1, us1, hxe1, _, _, hul1, hcells1, _, hfr1⟩ := slice_reads hc hv (l := l) rfl hall1
    cases hxe1
    have hune1 : us1 ≠ [] := (fun e => by rw [e] at hul1; have := Nat.mul_pos h1 hp; simp at hul1; omega)
    obtain ⟨ad1, rfl, hsp1, hcell1⟩ := hcells1 hune1
    obtain ⟨hb1, hb2⟩ := bytes_small hby
    have hr := run_append_grow (P := P) c.w ty o.type e i z hd hi hiz ad1 l.length l.length us1 (by rw [hisz]; exact hul1) hcell1 ad l2.length cp us (by rw [hisz]; exact hul) hcell (by omega)
      (by simp only [maxLen] at hb1; omega) (growslice_fits (by omega) (by rw [hiby]; omega))
    have hge := grownCap_ge c.w (l.length + l2.length) l.length e
    have hcm2 := grownCap_le_maxLen c.w (l.length + l2.length) l.length e hb1
    have hzs : z.cells.size = ei.size := by rw [← Array.length_toList, hzc, ht.len]
    have hall2 : ∀ el ∈ l ++ l2, el.length = ei.size := fun el hel => by
      rcases List.mem_append.1 hel with h | h
      · exact hall1 el h
      · exact hall el h
    have hfr2 := hfr1.append hfr
    rw [← List.flatten_append] at hfr2
    obtain ⟨h1', h2'⟩ := Cm.make hc (o := ⟨l ++ l2, e, true⟩) rfl (loc := ⟨c.w.heap.size, grownCap c.w (l.length + l2.length) l.length e, ei.size⟩) (w' := c.w.drew.alloc (.cells (us1.toArray ++ us.toArray ++ Builtin.zeroCells z.cells (grownCap c.w (l.length + l2.length) l.length e - (l.length + l2.length))) e))
      ⟨rfl, rfl, rfl, by simp, fun k hk _ => (Below.heap_alloc c.w.drew _ k hk)⟩ (Nat.le_refl _) (heap_alloc_new c.w.drew _)
      (by
        simp only [Array.size_append, List.size_toArray, size_zeroCells, hzs, hul, hul1, ← Nat.add_mul]; congr 1; omega) hcm2 hp ht.isize (by simpa using hge)
      (fun u hu => by
        simp only [Array.toList_append, List.mem_append] at hu
        rcases hu with (hu | hu) | hu
        · exact hfr1.one u hu
        · exact hfr.one u hu
        · exact hz1 _ u hu) hall2
      (fun i' j el x hi' hj => by
        obtain ⟨u, hu, hv⟩ := hfr2.els hall2 i' j el x hi' hj
        refine ⟨u, ?_, hv⟩
        have hlt := (List.getElem?_eq_some_iff.1 hu).1
        rw [Array.getElem?_append_left (by simpa using hlt)]
        have : (us1.toArray ++ us.toArray) = (us1 ++ us).toArray := by simp
        rw [this]; simpa using hu)
    have hr' : (execOp a.eval o).run P c.w = .ok (.value (.slice (some ⟨c.w.heap.size, 0, none⟩) (l.length + l2.length) (grownCap c.w (l.length + l2.length) l.length e))) (c.w.drew.alloc (.cells (us1.toArray ++ us.toArray ++ Builtin.zeroCells z.cells (grownCap c.w (l.length + l2.length) l.length e - (l.length + l2.length))) e)) := by

      simp only [execOp, hop, resolve, invoke, builtin, Sem.run_bind, Sem.run_pure, Result.andThen_ok, List.map_toArray, List.map_cons, List.map_nil, hsv, hxe, hr]
    refine ⟨_, _, _, hr', h1', h2', ?_, hK⟩
    · refine .sl (by simp) (by simp [Cf.len]) hge (fun loc hg => .inl ?_)
      have he : (l ++ l2).length = l.length + l2.length := List.length_append
      simp only [Cf.G, Heap.get_push, AObj.ln_mk, if_true, Option.some.injEq, he] at hg
      subst hg
      simp
end
/-- ^n of a number of 16 bits. -/
theorem compl16 {n : Int} (h0 : 0 ≤ n) (h1 : n ≤ 65535) {P : Program} (w : World) : (Op.unary .xor (.int .u16 n)).run P w = .ok (.int .u16 (65535 - n)) w := by
  obtain ⟨k, rfl⟩ := Int.eq_ofNat_of_zero_le h0
  have hk : k < 65536 := by omega
  have e1 : (BitVec.ofInt 16 65535 : BitVec 16) = BitVec.allOnes 16 := by decide
  have e2 : (BitVec.ofInt 16 (k : Int) : BitVec 16).toNat = k := by rw [BitVec.toNat_ofInt]; omega
  have e3 : (BitVec.allOnes 16 ^^^ BitVec.ofInt 16 (k : Int) : BitVec 16).toNat = 65535 - k := by
    rw [BitVec.allOnes_xor, BitVec.toNat_not, e2]
  have e4 : IntKind.u16.wrap (((65535 - k : Nat)) : Int) = 65535 - (k : Int) := by rw [IntKind.wrap_u16]; omega
  have e5 : Op.unary .xor (.int .u16 (k : Int)) = pure (.int .u16 (IntKind.u16.wrap (((BitVec.allOnes 16 ^^^ BitVec.ofInt 16 (k : Int) : BitVec 16).toNat : Nat) : Int))) := by rw [← e1]; rfl
  rw [e5, e3, e4]; rfl
theorem AOp.compl16 {P : Program} {o : Oper} {ts : List DV} {σ : Heap} {K : DV → Heap → Prop} {ty : TypeId} {x : Operand} {n : Int} (ho : o.op = .unOp .xor ty x) (hx : Cm.eval ts x = some (.sc (.int .u16 n))) (h0 : 0 ≤ n) (h1 : n ≤ 65535) (hK : K (.sc (.int .u16 (65535 - n))) σ) : AOp P o ts σ K := by
  refine AOp.val (fun c hc hσ a hTR => ⟨.int .u16 (65535 - n), ?_, .sc rfl⟩) hK
  obtain ⟨h2, _⟩ := (hTR.eval hx).plain_inv
  simp only [execOp, ho, h2]
  rw [Sem.run_bind, Cm.compl16 h0 h1 c.w]; rfl
theorem AW.regL {P : Program} {ts : List DV} {σ : Heap} {id : Nat} {ops : Array Oper} {Q : Exit → List DV → Heap → Prop} (h : AOpsL P ops ops.toList ts σ (Q .normal)) : AW P (.region id ops false) ts σ Q := by
  refine AW.region ?_
  have := h 0 rfl
  rwa [Array.length_toList, ← List.range_eq_range'] at this
theorem AOpsL.one {P : Program} {T : Tab} {o : Oper} {ts : List DV} {σ : Heap} (hT : TOk P T) {ops : Array Oper} {os : List Oper} {K : List DV → Heap → Prop} {r : DV × Heap} (hg : gon ops ts o.guard = some true) (hr : aop T o ts σ = some r) (h : AOpsL P ops os (putD ts o.dst r.1) r.2 K) : AOpsL P ops (o :: os) ts σ K :=
  AOpsL.op hg (aop_sound hT hr h)
theorem AOpsL.stp {P : Program} {T : Tab} {o : Oper} {ts ts' : List DV} {σ σ' : Heap} {x : DV} (hT : TOk P T) {ops : Array Oper} {os : List Oper} {K : List DV → Heap → Prop} (hg : gon ops ts o.guard = some true) (hr : aop T o ts σ = some (x, σ')) (hp : putD ts o.dst x = ts') (h : AOpsL P ops os ts' σ' K) : AOpsL P ops (o :: os) ts σ K :=
  AOpsL.op hg (aop_sound hT hr (by subst hp; exact h))
theorem AOpsL.offp {P : Program} {o : Oper} {ts ts' : List DV} {σ : Heap} {ops : Array Oper} {os : List Oper} {K : List DV → Heap → Prop} (hg : gon ops ts o.guard = some false) (hp : putD ts o.dst (.tup []) = ts') (h : AOpsL P ops os ts' σ K) : AOpsL P ops (o :: os) ts σ K :=
  AOpsL.off hg (by subst hp; exact h)
theorem AOpsL.callS {P : Program} {o : Oper} {ts : List DV} {σ : Heap} {ops : Array Oper} {os : List Oper} {K : List DV → Heap → Prop} {cal : Operand} {ag : Array Operand} {at_ : Array TypeId} {f : FuncId} {first cap ds : List DV} (hg : gon ops ts o.guard = some true)
    (ho : o.op = .call { callee := .value cal, args := ag, argTypes := at_ }) (hc : Cm.eval ts cal = some (.fn (.func f) first cap)) (hf : FnOk P f) (has : evalL ts ag.toList = some ds)
    (h : ACalls P f (first ++ ds ++ cap) σ (fun x σ' => AOpsL P ops os (putD ts o.dst x) σ' K)) : AOpsL P ops (o :: os) ts σ K :=
  AOpsL.op hg (AOp.call ho hc hf has h)
end Go.Proofs.Ytdkhlhfdjggbpaa.Cm
