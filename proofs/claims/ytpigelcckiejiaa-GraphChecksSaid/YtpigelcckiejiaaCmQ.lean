/- An append to a row that does not begin at its block's head (a queue). -/
import Derived.Test.YtpigelcckiejiaaCmLib3
import Derived.ArgAppend
namespace Go.Proofs.Ytpigelcckiejiaa.Cm
open Go.RowKit
set_option linter.unusedVariables false
set_option linter.unusedSimpArgs false
section
variable {P : Program} {T : Tab} {o : Oper} {ts : List DV} {σ : Heap} {K : DV → Heap → Prop}
theorem AOp.appendQ (hT : TOk P T) {ty te : TypeId} {s x : Operand} {t off len m : Nat} {xd : DV} {ei : TI} {sz0 by0 : Nat} {ze0 : List Value} {l full : List (List DV)} (ho : o.op = .call { callee := .builtin .append, args := #[s, x], argTypes := #[ty, ty] })
    (hs : Cm.eval ts s = some (.sl t off len m)) (hx : Cm.eval ts x = some xd) (hty0 : T ty = some ⟨.slice te, sz0, by0, ze0⟩) (hei : T te = some ei) (hp : 0 < ei.size) (hsl : sliceD σ xd = some l) (hall : ∀ el ∈ l, el.length = ei.size) (hl0' : 0 < l.length)
    (hob : σ.get t = some ⟨full, te, true⟩) (hm : full.length = m) (hlen : off + len = m) (hby : (len + l.length) * (ei.bytes + 1) ≤ 140737488355328)
    (hK1 : K (.sl t off (len + l.length) (m + l.length)) (σ.set t ⟨full ++ l, te, true⟩)) (hK2 : K (.sl σ.n 0 (len + l.length) (len + l.length)) (σ.push ⟨full.drop off ++ l, te, true⟩)) : AOp P o ts σ K := by
  refine AOp.run (fun c hc hσ a hTR => ?_)
  subst hσ
  have hvs := hTR.eval hs
  have hvx := hTR.eval hx
  have hty := (hT _ _ hty0).desc
  simp only [descOk] at hty
  have ht := hT _ _ hei
  obtain ⟨i, z, hi, hisz, hiby, hiz, hzc⟩ := ht.info
  obtain ⟨A, cp, us, hxe, hlc, hcm, hul, hcells, hAn, hfr⟩ := slice_reads hc hvx hsl hall
  have hz1 : ∀ n, ∀ u ∈ (Builtin.zeroCells z.cells n).toList, u.oneCell' = true := fun n u hu => by
    have := mem_zeroCells hu
    rw [hzc] at this
    exact plain_oneCell (List.all_eq_true.1 ht.plain u this)
  have hexec : ∀ (v1 : Value) v' w', a.eval s = v1 → (Builtin.append_ #[ty, ty] o.type #[v1, a.eval x]).run P c.w = .ok v' w' → (execOp a.eval o).run P c.w = .ok (.value v') w' := fun v1 v' w' h1 h2 => by
    subst h1
    simp only [execOp, ho, resolve, invoke, builtin, Sem.run_bind, Sem.run_pure, Result.andThen_ok, List.map_toArray, List.map_cons, List.map_nil, h2]
  obtain ⟨cur, fr, hcur, hz, _, hcs, hcm1, hp1, hiz1, hle, h1c, hes, hcv⟩ := hc.row hob rfl
  obtain ⟨rfl, hZ⟩ := hz rfl
  have hszz : (c.μ t).sz = ei.size := by
    have := ht.isize; rw [hiz1] at this; exact Option.some.inj this
  have hG : c.G t m = some (c.μ t) := by rw [← hm]; exact Cf.G_of hob rfl
  obtain ⟨hb1, hb2⟩ := bytes_small hby
  have hune : us ≠ [] := (fun e => by rw [e] at hul; have := Nat.mul_pos hl0' hp; simp at hul; omega)
  obtain ⟨ad, rfl, hsp, hcell⟩ := hcells hune
  have hsls : sliceD c.σ (.sl t off len m) = some (full.drop off) := by
    have h1 : (full.drop off).take len = full.drop off := List.take_of_length_le (by rw [List.length_drop]; omega)
    simp [sliceD, getO, hob, hm, h1]
    omega
  have halls : ∀ el ∈ full.drop off, el.length = ei.size := fun el hel => by rw [← hszz]; exact hes el (List.mem_of_mem_drop hel)
  obtain ⟨A0, cp0, us0, hse, hlc0, hcm0, hul0, hcells0, hAn0, hfr0⟩ := slice_reads hc hvs hsls halls
  have hdl : (full.drop off).length = len := by rw [List.length_drop]; omega
  rw [hdl] at hse hlc0 hul0
  have hvs' := hvs
  rw [hse] at hvs
  cases hvs with
  | sl ht2 hmm hcl h' =>
    rename_i ad0
    have hcell0 : ∀ j u, us0[j]? = some u → c.w.cell? (ad0.add j) = some u := fun j u hj => by
      have hne : us0 ≠ [] := fun e => by rw [e] at hj; simp at hj
      obtain ⟨a', e', _, h3⟩ := hcells0 hne
      cases e'
      exact h3 j u hj
    have hall2 : ∀ el ∈ full ++ l, el.length = ei.size := fun el hel => by
      rcases List.mem_append.1 hel with h | h
      · rw [← hszz]; exact hes el h
      · exact hall el h
    by_cases hroom : len + l.length ≤ cp0
    · obtain ⟨ha0, hcap0⟩ : ad0 = ⟨(c.μ t).blk, off * (c.μ t).sz, none⟩ ∧ off + cp0 = (c.μ t).cap := by
        rcases h' _ hG with h2 | ⟨_, h3, _⟩
        · exact h2
        · omega
      subst ha0
      have hfr1 := ObjOk.fr (P := P) hle hcs h1c hes hcv
      have hfit : full.length * ei.size ≤ cur.size := by rw [hcs, hszz]; exact Nat.mul_le_mul_right _ hle
      rw [hszz] at hfr1
      have hfr2 := hfr1.append hfr
      rw [← List.flatten_append] at hfr2
      have hroom2 : m + l.length ≤ (c.μ t).cap := by omega
      have hfit2 : m * i.size + us.length ≤ cur.size := by rw [hul, hcs, hszz, hisz, ← Nat.add_mul]; exact Nat.mul_le_mul_right _ hroom2
      have hr := run_append_room (P := P) c.w ty o.type te i hty hi (c.μ t).blk m (c.μ t).cap cur hcur ad l.length cp us (by rw [hisz]; exact hul) hcell hfr.one hroom2 hfit2
      have hfit3 := hfit2
      rw [hisz] at hfit3
      have hthere : ∀ k j, j < us.length → k + j < m * ei.size + us.length → (c.w.cell? ⟨(c.μ t).blk, k + j, none⟩).isSome = true := fun k j hj hk => by
        rw [cell_of_row c.w _ _ cur _ (0, 0) hcur, Array.getElem?_eq_getElem (by omega)]; rfl
      have hfz : ∀ k, c.w.frozen? ⟨(c.μ t).blk, k, none⟩ = false := fun k => frozen_of_row c.w _ k cur _ hcur
      have hoff : off * (c.μ t).sz + len * i.size = m * ei.size := by rw [hszz, hisz, ← Nat.add_mul, hlen]
      have hr2 := run_append_room_cells (P := P) c.w ty o.type te i hty hi (c.μ t).blk 0 m (c.μ t).cap ad l.length cp us (by rw [hisz]; exact hul) hcell hfr.one hroom2 (fun j hj => hthere _ j hj (by rw [hisz]; omega)) (fun j _ => hfz _)
      have hr3 := run_append_room_cells (P := P) c.w ty o.type te i hty hi (c.μ t).blk (off * (c.μ t).sz) len cp0 ad l.length cp us (by rw [hisz]; exact hul) hcell hfr.one hroom (fun j hj => hthere _ j hj (by rw [hoff]; omega)) (fun j _ => hfz _)
      rw [hr] at hr2
      injection hr2 with _ hw2
      rw [Nat.zero_add, hisz] at hw2
      rw [hoff, ← hw2] at hr3
      obtain ⟨h1', h2'⟩ := upd hc hob rfl (o' := ⟨full ++ l, te, true⟩) rfl rfl (loc' := c.μ t) (w' := c.w.setRow (c.μ t).blk (cur.toList.take (m * ei.size) ++ us ++ cur.toList.drop (m * ei.size + us.length)).toArray)
        ⟨rfl, rfl, rfl, by simp, fun k _ hk => setRow_other c.w _ k _ (fun e => hk (by simp [e]))⟩ (.inl rfl) rfl (.inl (by simp; omega)) (setRow_heap c.w _ cur _ te _ hcur)
        (by simp; rw [← hcs]; omega) hcm1 (by simp; omega)
        (fun u hu => by
          simp at hu
          rcases hu with hu | hu | hu
          · exact h1c u (List.mem_of_mem_take hu)
          · exact hfr.one u hu
          · exact h1c u (List.mem_of_mem_drop hu))
        (fun el hel => by rw [hszz]; exact hall2 el hel)
        (fun i' j el x hi' hj => by
          rw [hszz]
          obtain ⟨u, hu, hv⟩ := hfr2.els hall2 i' j el x hi' hj
          refine ⟨u, ?_, hv⟩
          have hlt := (List.getElem?_eq_some_iff.1 hu).1
          simp only [] at hu hlt
          rw [hm] at hu hlt
          simp only [List.getElem?_toArray]
          rw [List.getElem?_append_left hlt]; exact hu)
      refine ⟨_, _, _, hexec _ _ _ hse (by rw [hxe]; exact hr3), h1', h2', ?_, hK1⟩
      have htl := Heap.lt hob
      refine .sl (by simpa using htl) (by simp [Cf.len, Heap.get_set htl, AObj.ln]; omega) (by omega) (fun loc hg => .inl ?_)
      simp only [Cf.G, Heap.get_set htl, AObj.ln, if_true] at hg
      split at hg
      · cases hg; simp; omega
      · cases hg
    · have hr := run_append_grow (P := P) c.w ty o.type te i z hty hi hiz ad0 len cp0 us0 (by rw [hisz]; exact hul0) hcell0 ad l.length cp us (by rw [hisz]; exact hul) hcell (by omega)
        (by simp only [maxLen] at hb1; omega) (growslice_fits (by omega) (by rw [hiby]; omega))
      have hge := grownCap_ge c.w (len + l.length) cp0 te
      have hcm2 := grownCap_le_maxLen c.w (len + l.length) cp0 te hb1
      have hzs : z.cells.size = ei.size := by rw [← Array.length_toList, hzc, ht.len]
      have hfr3 := hfr0.append hfr
      rw [← List.flatten_append] at hfr3
      have hall3 : ∀ el ∈ full.drop off ++ l, el.length = ei.size := fun el hel => by
        rcases List.mem_append.1 hel with h | h
        · exact halls el h
        · exact hall el h
      obtain ⟨h1', h2'⟩ := Cm.make hc (o := ⟨full.drop off ++ l, te, true⟩) rfl (loc := ⟨c.w.heap.size, grownCap c.w (len + l.length) cp0 te, ei.size⟩)
        (w' := c.w.drew.alloc (.cells (us0.toArray ++ us.toArray ++ Builtin.zeroCells z.cells (grownCap c.w (len + l.length) cp0 te - (len + l.length))) te))
        ⟨rfl, rfl, rfl, by simp, fun k hk _ => (Below.heap_alloc c.w.drew _ k hk)⟩ (Nat.le_refl _) (heap_alloc_new c.w.drew _)
        (by
          simp only [Array.size_append, List.size_toArray, size_zeroCells, hzs, hul, hul0, ← Nat.add_mul]; congr 1; omega) hcm2 hp ht.isize (by simp only [List.length_append, hdl]; exact hge)
        (fun u hu => by
          simp only [Array.toList_append, List.mem_append] at hu
          rcases hu with (hu | hu) | hu
          · exact hfr0.one u hu
          · exact hfr.one u hu
          · exact hz1 _ u hu) hall3
        (fun i' j el x hi' hj => by
          obtain ⟨u, hu, hv⟩ := hfr3.els hall3 i' j el x hi' hj
          refine ⟨u, ?_, hv⟩
          have hlt := (List.getElem?_eq_some_iff.1 hu).1
          rw [Array.getElem?_append_left (by simpa using hlt)]
          have : (us0.toArray ++ us.toArray) = (us0 ++ us).toArray := by simp
          rw [this]; simpa using hu)
      refine ⟨_, _, _, hexec _ _ _ hse (by rw [hxe]; exact hr), h1', h2', ?_, hK2⟩
      refine .sl (by simp) (by simp [Cf.len, hdl]) hge (fun loc hg => .inl ?_)
      simp only [Cf.G, Heap.get_push, AObj.ln_mk, List.length_append, hdl, if_true, Option.some.injEq] at hg
      subst hg
      simp
end
end Go.Proofs.Ytpigelcckiejiaa.Cm
