/- A pool in play; the law's alive. -/
import Derived.Test.YthdamnemoaaigaaPool2
namespace Go.Proofs.Ythdamnemoaaigaa.Cm
open Go.RowKit
set_option linter.unusedVariables false
set_option linter.unusedSimpArgs false
set_option maxRecDepth 20000
set_option maxHeartbeats 8000000
structure Gd (lo hi nx : Int) (E : List (Int × DV)) : Prop where
  rt : right lo hi
  lo_ : lo ≤ nx
  hi_ : nx ≤ hi + 1
  el : ∀ e ∈ E, lo ≤ e.1 ∧ e.1 < nx
  nd : (E.map Prod.fst).Nodup
theorem Gd.nil {lo hi : Int} (h : right lo hi) : Gd lo hi lo [] := ⟨h, Int.le_refl _, by unfold right at h; omega, by simp, by simp⟩
theorem Gd.take {lo hi nx : Int} {E : List (Int × DV)} (h : Gd lo hi nx E) (hle : nx ≤ hi) (s : DV) : Gd lo hi (nx + 1) (E ++ [(nx, s)]) := by
  refine ⟨h.rt, by have := h.lo_; omega, by omega, fun e he => ?_, ?_⟩
  · rcases List.mem_append.1 he with he | he
    · have := h.el e he; omega
    · rw [List.mem_singleton] at he; subst he; have := h.lo_; simp; omega
  · rw [List.map_append, List.nodup_append]
    refine ⟨h.nd, by simp, fun a ha b hb => ?_⟩
    simp at hb
    obtain ⟨e, he, rfl⟩ := List.mem_map.1 ha
    have := h.el e he
    omega
theorem Gd.drop {lo hi nx : Int} {E : List (Int × DV)} (h : Gd lo hi nx E) (i : Nat) : Gd lo hi nx (E.eraseIdx i) := by
  have hs : (E.eraseIdx i).Sublist E := List.eraseIdx_sublist _ _
  exact ⟨h.rt, h.lo_, h.hi_, fun e he => h.el e (hs.subset he), (hs.map Prod.fst).nodup h.nd⟩
theorem Gd.len {lo hi nx : Int} {E : List (Int × DV)} (h : Gd lo hi nx E) : (E.length : Int) ≤ nx - lo := by
  have hl := h.lo_
  have h1 : ∀ x ∈ E.map (fun e => (e.1 - lo).toNat), x ∈ List.range (nx - lo).toNat := fun x hx => by
    obtain ⟨e, he, rfl⟩ := List.mem_map.1 hx
    have := h.el e he
    rw [List.mem_range]; omega
  have h2 : (E.map (fun e => (e.1 - lo).toNat)).Nodup := by
    have h3 : E.map (fun e => (e.1 - lo).toNat) = (E.map Prod.fst).map (fun k => (k - lo).toNat) := by rw [List.map_map]; rfl
    rw [h3]
    refine List.Pairwise.map _ ?_ (List.Pairwise.and_mem.1 h.nd)
    rintro a b ⟨ha, hb, hab⟩ he
    obtain ⟨e1, he1, rfl⟩ := List.mem_map.1 ha
    obtain ⟨e2, he2, rfl⟩ := List.mem_map.1 hb
    have := h.el e1 he1
    have := h.el e2 he2
    omega
  have := nodup_len _ _ h2 h1
  rw [List.length_map, List.length_range] at this
  omega
theorem take_any (σ : Heap) {p t : Nat} {lo hi nx : Int} {E : List (Int × DV)} (h : Pl σ p t nx hi E) (g : Gd lo hi nx E) : ACalls Try.prog 13 [.ptr p 0 0 1] σ (fun y σ' => (nx ≤ hi ∧ y = .tup [.sc (.int .i64 nx), .sc (.int .i64 0)] ∧ (∃ s, Pl σ' p t (nx + 1) hi (E ++ [(nx, s)]) ∧ Gd lo hi (nx + 1) (E ++ [(nx, s)])) ∧ Ext [p, t] σ σ') ∨ (nx = hi + 1 ∧ y = .tup [.sc (.int .i64 0), .sc (.int .i64 7)] ∧ σ' = σ)) := by
  have h1 := g.rt
  have h2 := g.lo_
  have h3 := g.hi_
  unfold right at h1
  by_cases hle : nx ≤ hi
  · refine (take_ok σ h hle (by omega) (by omega) (fun e he => (g.el e he).2)).mono ?_
    rintro y σ' ⟨rfl, ⟨s, hs⟩, hx⟩
    exact .inl ⟨hle, rfl, ⟨s, hs, g.take hle s⟩, hx⟩
  · refine (take_no σ h (by omega)).mono ?_
    rintro y σ' ⟨rfl, rfl⟩
    exact .inr ⟨by omega, rfl, rfl⟩
theorem drop_any (σ : Heap) {p t : Nat} {lo hi nx l : Int} {E : List (Int × DV)} (h : Pl σ p t nx hi E) (g : Gd lo hi nx E) (hl : (Lit.int .i64 l).wf = true) : ACalls Try.prog 12 [.ptr p 0 0 1, .sc (.int .i64 l)] σ (fun y σ' => (∃ i s, E[i]? = some (l, s) ∧ y = .sc (.int .i64 0) ∧ Pl σ' p t nx hi (E.eraseIdx i) ∧ Gd lo hi nx (E.eraseIdx i) ∧ Ext [t] σ σ') ∨ ((∀ e ∈ E, e.1 ≠ l) ∧ y = .sc (.int .i64 8) ∧ σ' = σ)) := by
  by_cases hm : ∃ e ∈ E, e.1 = l
  · obtain ⟨⟨l', s⟩, he, rfl⟩ := hm
    obtain ⟨i, hi'⟩ := List.mem_iff_getElem?.1 he
    refine (drop_ok σ h hl hi').mono ?_
    rintro y σ' ⟨rfl, h1, h2⟩
    exact .inl ⟨i, s, hi', rfl, h1, g.drop i, h2⟩
  · have hno : ∀ e ∈ E, e.1 ≠ l := fun e he h => hm ⟨e, he, h⟩
    refine (drop_no σ h hl hno).mono ?_
    rintro y σ' ⟨rfl, rfl⟩
    exact .inr ⟨hno, rfl, rfl⟩
theorem alive_ok (σ : Heap) : ACalls Try.prog 8 [] σ (fun y σ' => y = .sc (.bool true) ∧ Ext [] σ σ') := by
  refine ACalls.code hT Try.func8 rfl ?_
  simp only [Try.ntmps8, List.length_cons, List.length_nil, Nat.reduceSub, Nat.reduceAdd, List.replicate, List.cons_append, List.nil_append]
  repeat (first | (with_reducible first | refine AW.seq ?_ | refine AW.block ?_ | refine AW.skip ?_ | refine AW.ret ?_ | refine AW.exit ?_ | refine AW.reg hT ?_) | ((with_reducible refine AW.cond_true ?_ ?_); · rfl) | ((with_reducible refine AW.cond_false ?_ ?_); · rfl) | simp (maxSteps := 3000000) (maxDischargeDepth := 12) only [seval,push_cast,appendX,Try.results8])
  refine AOpsL.call (first := []) (cap := []) hT rfl rfl rfl fn9 rfl (ACalls.mono (pnew_ok _ 16 17) ?_)
  rintro y σ1 (⟨hr, _⟩ | ⟨hr, p, t, rfl, h1, hpn, htn, xt1⟩)
  · exact absurd (by unfold right; omega) hr
  repeat (first | (with_reducible first | refine AW.seq ?_ | refine AW.block ?_ | refine AW.skip ?_ | refine AW.ret ?_ | refine AW.exit ?_ | refine AW.reg hT ?_) | ((with_reducible refine AW.cond_true ?_ ?_); · rfl) | ((with_reducible refine AW.cond_false ?_ ?_); · rfl) | simp (maxSteps := 3000000) (maxDischargeDepth := 12) only [seval,push_cast,appendX,Try.results8,xt1.2,xt1.ltT,xt1.leT])
  refine AOpsL.call (first := []) (cap := []) hT rfl rfl rfl fn13 rfl (ACalls.mono (take_ok _ h1 (by decide) (by decide) (by decide) (by simp)) ?_)
  rintro y σ2 ⟨rfl, ⟨s, h2⟩, xt2⟩
  repeat (first | (with_reducible first | refine AW.seq ?_ | refine AW.block ?_ | refine AW.skip ?_ | refine AW.ret ?_ | refine AW.exit ?_ | refine AW.reg hT ?_) | ((with_reducible refine AW.cond_true ?_ ?_); · rfl) | ((with_reducible refine AW.cond_false ?_ ?_); · rfl) | simp (maxSteps := 3000000) (maxDischargeDepth := 12) only [seval,push_cast,appendX,Try.results8,xt1.2,xt1.ltT,xt1.leT,xt2.2,xt2.ltT,xt2.leT])
  refine AOpsL.call (first := []) (cap := []) hT rfl rfl rfl fn12 rfl (ACalls.mono (drop_ok _ h2 (wf_small (by decide) (by decide)) (i := 0) (s0 := s) rfl) ?_)
  rintro y σ3 ⟨rfl, h3, xt3⟩
  repeat (first | (with_reducible first | refine AW.seq ?_ | refine AW.block ?_ | refine AW.skip ?_ | refine AW.ret ?_ | refine AW.exit ?_ | refine AW.reg hT ?_) | ((with_reducible refine AW.cond_true ?_ ?_); · rfl) | ((with_reducible refine AW.cond_false ?_ ?_); · rfl) | simp (maxSteps := 3000000) (maxDischargeDepth := 12) only [seval,push_cast,appendX,Try.results8,xt1.2,xt1.ltT,xt1.leT,xt2.2,xt2.ltT,xt2.leT,xt3.2,xt3.ltT,xt3.leT])
  refine AOpsL.call (first := []) (cap := []) hT rfl rfl rfl fn13 rfl (ACalls.mono (take_ok _ h3 (by decide) (by decide) (by decide) (by simp)) ?_)
  rintro y σ4 ⟨rfl, ⟨s4, h4⟩, xt4⟩
  repeat (first | (with_reducible first | refine AW.seq ?_ | refine AW.block ?_ | refine AW.skip ?_ | refine AW.ret ?_ | refine AW.exit ?_ | refine AW.reg hT ?_) | ((with_reducible refine AW.cond_true ?_ ?_); · rfl) | ((with_reducible refine AW.cond_false ?_ ?_); · rfl) | simp (maxSteps := 3000000) (maxDischargeDepth := 12) only [seval,push_cast,appendX,Try.results8,xt1.2,xt1.ltT,xt1.leT,xt2.2,xt2.ltT,xt2.leT,xt3.2,xt3.ltT,xt3.leT,xt4.2,xt4.ltT,xt4.leT])
  refine AOpsL.call (first := []) (cap := []) hT rfl rfl rfl fn13 rfl (ACalls.mono (take_no _ h4 (by decide)) ?_)
  rintro y s5 ⟨rfl, rfl⟩
  repeat (first | (with_reducible first | refine AW.seq ?_ | refine AW.block ?_ | refine AW.skip ?_ | refine AW.ret ?_ | refine AW.exit ?_ | refine AW.reg hT ?_) | ((with_reducible refine AW.cond_true ?_ ?_); · rfl) | ((with_reducible refine AW.cond_false ?_ ?_); · rfl) | simp (maxSteps := 3000000) (maxDischargeDepth := 12) only [seval,push_cast,appendX,Try.results8,xt1.2,xt1.ltT,xt1.leT,xt2.2,xt2.ltT,xt2.leT,xt3.2,xt3.ltT,xt3.leT,xt4.2,xt4.ltT,xt4.leT])
  refine AOpsL.call (first := []) (cap := []) hT rfl rfl rfl fn16 rfl (ACalls.mono (out_ok _ h4 (by simp)) ?_)
  rintro y σ6 ⟨hy, h6, xt6⟩
  obtain ⟨L, hL, hy⟩ : ∃ L : List (List DV), L.length = 1 ∧ y = .imm L := ⟨_, by rw [List.length_map, (srt_perm _).length_eq]; rfl, hy⟩
  subst hy
  have dcl := hL
  repeat (first | (with_reducible first | refine AW.seq ?_ | refine AW.block ?_ | refine AW.skip ?_ | refine AW.ret ?_ | refine AW.exit ?_ | refine AW.reg hT ?_) | ((with_reducible refine AW.cond_true ?_ ?_); · rfl) | ((with_reducible refine AW.cond_false ?_ ?_); · rfl) | simp (maxSteps := 3000000) (maxDischargeDepth := 12) only [seval,push_cast,appendX,Try.results8,xt1.2,xt1.ltT,xt1.leT,xt2.2,xt2.ltT,xt2.leT,xt3.2,xt3.ltT,xt3.leT,xt4.2,xt4.ltT,xt4.leT,xt6.2,xt6.ltT,xt6.leT,dcl])
  refine AOpsL.call (first := []) (cap := []) hT rfl rfl rfl fn18 rfl (ACalls.mono (left_ok _ h6 (by decide) (by decide) (by decide) (by decide)) ?_)
  rintro y s7 ⟨rfl, rfl⟩
  repeat (first | (with_reducible first | refine AW.seq ?_ | refine AW.block ?_ | refine AW.skip ?_ | refine AW.ret ?_ | refine AW.exit ?_ | refine AW.reg hT ?_) | ((with_reducible refine AW.cond_true ?_ ?_); · rfl) | ((with_reducible refine AW.cond_false ?_ ?_); · rfl) | simp (maxSteps := 3000000) (maxDischargeDepth := 12) only [seval,push_cast,appendX,Try.results8,xt1.2,xt1.ltT,xt1.leT,xt2.2,xt2.ltT,xt2.leT,xt3.2,xt3.ltT,xt3.leT,xt4.2,xt4.ltT,xt4.leT,xt6.2,xt6.ltT,xt6.leT,dcl])
  have hx : Ext [p, t] σ1 s7 := (((xt2.trans (xt3.mono (by simp))).trans xt4).trans (xt6.mono (by simp)))
  exact xt1.then hx (fun q hq hl => by simp at hq; rcases hq with rfl | rfl <;> omega)
end Go.Proofs.Ythdamnemoaaigaa.Cm
