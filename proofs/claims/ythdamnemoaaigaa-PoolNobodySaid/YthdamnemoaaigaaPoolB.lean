/- PoolNobody: many pools at once. -/
import Derived.Test.YthdamnemoaaigaaPoolA
import Derived.Test.YthdamnemoaaigaaPool8
namespace Go.Proofs.Ythdamnemoaaigaa.Cm
open Go.RowKit
set_option linter.unusedVariables false
set_option linter.unusedSimpArgs false
set_option maxRecDepth 20000
set_option maxHeartbeats 8000000
def irI (r : List Int) (d1 d2 : DV) (σ0 : Heap) (m : Nat) (ts : List DV) (σ : Heap) : Prop := ∃ i, m = r.length + 1 - i ∧ i ≤ r.length ∧ σ = σ0 ∧ TellsL ts (d1 :: d2 :: .any :: .any :: .any :: .sc (.int .i64 i) :: .any :: .any :: .any :: .any :: .any :: .any :: .any :: .any :: .any :: .any :: .any :: .any :: .any :: .any :: .any :: .any :: .any :: .any :: .any :: .any :: [])
/-- Ints, of rows that are still written. -/
theorem intsrow_ok (σ : Heap) (r : List Int) (C1 C2 : List (List DV)) {t1 t2 : Nat} (n m1 m2 : Nat) (hn : n = r.length) (hm1 : m1 = r.length + C1.length) (hm2 : m2 = r.length + C2.length) (gt1 : σ.get t1 = some ⟨r.map eZ' ++ C1, 3, true⟩) (gt2 : σ.get t2 = some ⟨r.map eZ' ++ C2, 3, true⟩) (hl : r.length ≤ 1000000) : ACalls Try.prog 15 [.sl t1 0 n m1, .sl t2 0 n m2] σ (fun y σ' => y = .sc (.bool true) ∧ σ' = σ) := by
  have dcf1 : (r.map eZ' ++ C1).length = m1 := by simp [hm1]
  have dcf2 : (r.map eZ' ++ C2).length = m2 := by simp [hm2]
  have dcne : ((n : Int) != (n : Int)) = false := by simp
  refine ACalls.code hT Try.func15 rfl ?_
  simp only [Try.ntmps15, List.length_cons, List.length_nil, Nat.reduceSub, Nat.reduceAdd, List.replicate, List.cons_append, List.nil_append]
  repeat (first | (with_reducible refine AW.seq ?_) | (with_reducible refine AW.block ?_) | (with_reducible refine AW.skip ?_) | (with_reducible refine AW.ret ?_) | (with_reducible refine AW.exit ?_) | (with_reducible refine AW.reg hT ?_) | ((with_reducible show AW _ (.region 6 _ _) _ _ _); (with_reducible refine AW.drawn (id := 6) hT [0,1,2,3,4,5,6,7,8] [[],[],[0,1],[0,1,2],[],[],[4,5],[4,5,6],[0,1,2,3,4,5,6,7]] mix (by kernel_rfl) ?_)) | ((with_reducible show DLeft _ _ _ _ (_ :: _) _ _ _ _); (with_reducible apply DLeft.step hT); (case hoi => ((simp only [List.getElem?_toArray,List.getElem?_cons_zero,List.getElem?_cons_succ]); with_reducible rfl)); (case hg => rfl); (case hk => rfl); (case hr => ((try simp (maxSteps := 3000000) (maxDischargeDepth := 12) only [push_cast,appendX,reduceIte,reduceCtorEq,Nat.reduceSub,Nat.reduceAdd,Nat.reduceMul,Nat.reduceLT,Nat.reduceLeDiff,Nat.reduceEqDiff,Nat.reduceBEq,Int.reduceToNat,Int.reduceLT,Int.reduceLE,Int.reduceEq,Int.reduceNeg,Try.results15,gt1,Heap.lt gt1,gt2,Heap.lt gt2,dcf1,dcf2,dcne]); with_reducible rfl))) | ((with_reducible refine AW.cond_true ?_ ?_); · rfl) | ((with_reducible refine AW.cond_false ?_ ?_); · rfl) | simp (maxSteps := 3000000) (maxDischargeDepth := 12) only [push_cast,appendX,reduceIte,reduceCtorEq,Nat.reduceSub,Nat.reduceAdd,Nat.reduceMul,Nat.reduceLT,Nat.reduceLeDiff,Nat.reduceEqDiff,Nat.reduceBEq,Int.reduceToNat,Int.reduceLT,Int.reduceLE,Int.reduceEq,Int.reduceNeg,Try.results15,gt1,Heap.lt gt1,gt2,Heap.lt gt2,dcf1,dcf2,dcne])
  refine AW.loop (irI r (.sl t1 0 n m1) (.sl t2 0 n m2) σ) (m := r.length + 1) ⟨0, rfl, Nat.zero_le _, rfl, by (simp only [push_cast, TellsL, tells_any, tells_refl])⟩ ?_
  rintro m ts σ3 ⟨i, rfl, hil, rfl, hts⟩
  refine AW.told hts ?_
  clear hts
  by_cases hi : i < r.length
  · have dci : decide ((i : Int) < (n : Int)) = true := decide_eq_true (by omega)
    have dci2 : ((i : Int) < (n : Int)) = True := by simp; omega
    have dci0 : ((0 : Int) ≤ (i : Int)) = True := by simp
    have dce1 : (r.map eZ' ++ C1)[i]? = some [.sc (.int .i64 r[i])] := by rw [List.getElem?_append_left (by simpa using hi), List.getElem?_map, List.getElem?_eq_getElem hi]; rfl
    have dce2 : (r.map eZ' ++ C2)[i]? = some [.sc (.int .i64 r[i])] := by rw [List.getElem?_append_left (by simpa using hi), List.getElem?_map, List.getElem?_eq_getElem hi]; rfl
    have dcw : IntKind.i64.wrap ((i : Int) + 1) = (i : Int) + 1 := wrap_i64 (by omega) (by omega)
    have dcx : (r[i] != r[i]) = false := by simp
    repeat (first | (with_reducible refine AW.seq ?_) | (with_reducible refine AW.block ?_) | (with_reducible refine AW.skip ?_) | (with_reducible refine AW.ret ?_) | (with_reducible refine AW.exit ?_) | (with_reducible refine AW.reg hT ?_) | ((with_reducible show AW _ (.region 6 _ _) _ _ _); (with_reducible refine AW.drawn (id := 6) hT [0,1,2,3,4,5,6,7,8] [[],[],[0,1],[0,1,2],[],[],[4,5],[4,5,6],[0,1,2,3,4,5,6,7]] mix (by kernel_rfl) ?_)) | ((with_reducible show DLeft _ _ _ _ (_ :: _) _ _ _ _); (with_reducible apply DLeft.step hT); (case hoi => ((simp only [List.getElem?_toArray,List.getElem?_cons_zero,List.getElem?_cons_succ]); with_reducible rfl)); (case hg => rfl); (case hk => rfl); (case hr => ((try simp (maxSteps := 3000000) (maxDischargeDepth := 12) only [push_cast,appendX,reduceIte,reduceCtorEq,Nat.reduceSub,Nat.reduceAdd,Nat.reduceMul,Nat.reduceLT,Nat.reduceLeDiff,Nat.reduceEqDiff,Nat.reduceBEq,Int.reduceToNat,Int.reduceLT,Int.reduceLE,Int.reduceEq,Int.reduceNeg,Try.results15,gt1,Heap.lt gt1,gt2,Heap.lt gt2,dcf1,dcf2,dcne,dci,dci2,dci0,dce1,dce2,dcw,dcx]); with_reducible rfl))) | ((with_reducible refine AW.cond_true ?_ ?_); · rfl) | ((with_reducible refine AW.cond_false ?_ ?_); · rfl) | simp (maxSteps := 3000000) (maxDischargeDepth := 12) only [push_cast,appendX,reduceIte,reduceCtorEq,Nat.reduceSub,Nat.reduceAdd,Nat.reduceMul,Nat.reduceLT,Nat.reduceLeDiff,Nat.reduceEqDiff,Nat.reduceBEq,Int.reduceToNat,Int.reduceLT,Int.reduceLE,Int.reduceEq,Int.reduceNeg,Try.results15,gt1,Heap.lt gt1,gt2,Heap.lt gt2,dcf1,dcf2,dcne,dci,dci2,dci0,dce1,dce2,dcw,dcx])
    exact ⟨r.length + 1 - (i + 1), by omega, i + 1, rfl, hi, rfl, by (simp only [push_cast, TellsL, tells_any, tells_refl])⟩
  · have dci : decide ((i : Int) < (n : Int)) = false := decide_eq_false (by omega)
    repeat (first | (with_reducible refine AW.seq ?_) | (with_reducible refine AW.block ?_) | (with_reducible refine AW.skip ?_) | (with_reducible refine AW.ret ?_) | (with_reducible refine AW.exit ?_) | (with_reducible refine AW.reg hT ?_) | ((with_reducible show AW _ (.region 6 _ _) _ _ _); (with_reducible refine AW.drawn (id := 6) hT [0,1,2,3,4,5,6,7,8] [[],[],[0,1],[0,1,2],[],[],[4,5],[4,5,6],[0,1,2,3,4,5,6,7]] mix (by kernel_rfl) ?_)) | ((with_reducible show DLeft _ _ _ _ (_ :: _) _ _ _ _); (with_reducible apply DLeft.step hT); (case hoi => ((simp only [List.getElem?_toArray,List.getElem?_cons_zero,List.getElem?_cons_succ]); with_reducible rfl)); (case hg => rfl); (case hk => rfl); (case hr => ((try simp (maxSteps := 3000000) (maxDischargeDepth := 12) only [push_cast,appendX,reduceIte,reduceCtorEq,Nat.reduceSub,Nat.reduceAdd,Nat.reduceMul,Nat.reduceLT,Nat.reduceLeDiff,Nat.reduceEqDiff,Nat.reduceBEq,Int.reduceToNat,Int.reduceLT,Int.reduceLE,Int.reduceEq,Int.reduceNeg,Try.results15,gt1,Heap.lt gt1,gt2,Heap.lt gt2,dcf1,dcf2,dcne,dci]); with_reducible rfl))) | ((with_reducible refine AW.cond_true ?_ ?_); · rfl) | ((with_reducible refine AW.cond_false ?_ ?_); · rfl) | simp (maxSteps := 3000000) (maxDischargeDepth := 12) only [push_cast,appendX,reduceIte,reduceCtorEq,Nat.reduceSub,Nat.reduceAdd,Nat.reduceMul,Nat.reduceLT,Nat.reduceLeDiff,Nat.reduceEqDiff,Nat.reduceBEq,Int.reduceToNat,Int.reduceLT,Int.reduceLE,Int.reduceEq,Int.reduceNeg,Try.results15,gt1,Heap.lt gt1,gt2,Heap.lt gt2,dcf1,dcf2,dcne,dci])
theorem intsholds_ok (σ : Heap) {d1 d2 : DV} (r : List Int) (h1 : Hold σ d1 3 (r.map eZ')) (h2 : Hold σ d2 3 (r.map eZ')) (hne : r ≠ []) (hl : r.length ≤ 1000000) : ACalls Try.prog 15 [d1, d2] σ (fun y σ' => y = .sc (.bool true) ∧ σ' = σ) := by
  rcases h1 with ⟨rfl, he⟩ | ⟨t1, full1, rfl, g1, hle1, htk1⟩
  · exact absurd (by simpa using he) hne
  · rcases h2 with ⟨rfl, he⟩ | ⟨t2, full2, rfl, g2, hle2, htk2⟩
    · exact absurd (by simpa using he) hne
    · rw [List.length_map] at htk1 hle1 htk2 hle2
      have hf1 : full1 = r.map eZ' ++ full1.drop r.length := by
        conv => lhs; rw [← List.take_append_drop r.length full1, htk1]
      have hf2 : full2 = r.map eZ' ++ full2.drop r.length := by
        conv => lhs; rw [← List.take_append_drop r.length full2, htk2]
      rw [List.length_map]
      exact intsrow_ok σ r (full1.drop r.length) (full2.drop r.length) r.length full1.length full2.length rfl (by rw [List.length_drop]; omega) (by rw [List.length_drop]; omega) (by rw [g1, ← hf1]) (by rw [g2, ← hf2]) hl
/-- A pool that was left behind. -/
structure Od where
  p : Nat
  t : Nat
  nx : Int
  E : List (Int × DV)
def wasOf (o : Od) : List Int := srt (o.E.map Prod.fst) ++ [99 - o.nx + 1]
def ptE (o : Od) : List DV := [.ptr o.p 0 0 1]
structure Pn (σ : Heap) (p t : Nat) (nx : Int) (E : List (Int × DV)) (L : List Od) (dO dW : DV) (H : List DV) : Prop where
  pl : Pl σ p t nx 99 E
  gd : Gd 16 99 nx E
  old : ∀ o ∈ L, Pl σ o.p o.t o.nx 99 o.E ∧ Gd 16 99 o.nx o.E ∧ o.E.length ≤ 200
  ne : ∀ o ∈ L, o.p ≠ p ∧ o.t ≠ t
  hO : Hold σ dO 24 (L.map ptE)
  hW : Hold σ dW 27 (H.map fun h => [h])
  hl : H.length = L.length
  hH : ∀ (k : Nat) (o : Od) (h : DV), L[k]? = some o → H[k]? = some h → Hold σ h 3 ((wasOf o).map eZ')
theorem Pl.apart {σ : Heap} {p t p2 t2 : Nat} {nx hi nx2 hi2 : Int} {E E2 : List (Int × DV)} (h : Pl σ p t nx hi E) (k : Pl σ p2 t2 nx2 hi2 E2) : p ≠ t2 ∧ t ≠ p2 := by
  constructor
  · rintro rfl
    have := h.po.symm.trans k.pm
    simp [pO, pM] at this
  · rintro rfl
    have := h.pm.symm.trans k.po
    simp [pO, pM] at this
theorem Pl.nothold {σ : Heap} {p t : Nat} {nx hi : Int} {E : List (Int × DV)} (h : Pl σ p t nx hi E) {d : DV} {e : TypeId} {els : List (List DV)} (hd : Hold σ d e els) (h1 : 51 ≠ e) (h2 : 49 ≠ e) : p ∉ tOf d ∧ t ∉ tOf d := ⟨hd.ne h.po h1, hd.ne h.pm h2⟩
/-- The current pool acts: what was left behind stays. -/
theorem Pn.act {σ σ' : Heap} {p t : Nat} {nx nx' : Int} {E E' : List (Int × DV)} {L : List Od} {dO dW : DV} {H : List DV} (h : Pn σ p t nx E L dO dW H) (hx : Ext [p, t] σ σ') (hp : Pl σ' p t nx' 99 E') (hg : Gd 16 99 nx' E') : Pn σ' p t nx' E' L dO dW H := by
  have hfr : ∀ {d : DV} {e : TypeId} {els : List (List DV)}, Hold σ d e els → 51 ≠ e → 49 ≠ e → Hold σ' d e els := fun hd h1 h2 => hd.frame hx (fun q hq hm => by
    obtain ⟨n1, n2⟩ := h.pl.nothold hd h1 h2
    simp at hm
    rcases hm with rfl | rfl
    · exact n1 hq
    · exact n2 hq)
  refine ⟨hp, hg, fun o ho => ?_, h.ne, hfr h.hO (by decide) (by decide), hfr h.hW (by decide) (by decide), h.hl, fun k o d h1 h2 => hfr (h.hH k o d h1 h2) (by decide) (by decide)⟩
  obtain ⟨h1, h2, h3⟩ := h.old o ho
  obtain ⟨n1, n2⟩ := h.ne o ho
  obtain ⟨a1, a2⟩ := h1.apart h.pl
  exact ⟨⟨hx.get h1.po (by simp [n1, a1]), hx.get h1.pm (by simp [n2, a2])⟩, h2, h3⟩
/-- New objects, and an append to a row of which nothing else is made. -/
theorem Pn.more {σ σ' : Heap} {p t : Nat} {nx : Int} {E : List (Int × DV)} {L : List Od} {dO dW : DV} {H : List DV} (h : Pn σ p t nx E L dO dW H) (hx : Ext [] σ σ') : Pn σ' p t nx E L dO dW H :=
  ⟨h.pl.frame hx, h.gd, fun o ho => ⟨(h.old o ho).1.frame hx, (h.old o ho).2⟩, h.ne, h.hO.frame hx (by simp), h.hW.frame hx (by simp), h.hl, fun k o d h1 h2 => (h.hH k o d h1 h2).frame hx (by simp)⟩
/-- The current pool is left behind. -/
theorem Pn.fork {σ : Heap} {p t p2 t2 : Nat} {nx : Int} {E : List (Int × DV)} {L : List Od} {d5 d6 dh : DV} {H : List DV} (h2 : Pl σ p2 t2 nx 99 E) (hpl : Pl σ p t nx 99 E) (gd : Gd 16 99 nx E) (hE : E.length ≤ 200) (hold : ∀ o ∈ L, Pl σ o.p o.t o.nx 99 o.E ∧ Gd 16 99 o.nx o.E ∧ o.E.length ≤ 200) (hlt : ∀ o ∈ L, o.p < p2 ∧ o.t < t2) (hp : p < p2) (ht : t < t2)
    (hO : Hold σ d5 24 (L.map ptE ++ [[.ptr p 0 0 1]])) (hW : Hold σ d6 27 ((H.map fun h => [h]) ++ [[dh]])) (hl : H.length = L.length) (hH : ∀ (k : Nat) (o : Od) (h : DV), L[k]? = some o → H[k]? = some h → Hold σ h 3 ((wasOf o).map eZ')) (hh : Hold σ dh 3 ((srt (E.map Prod.fst)).map eZ' ++ [[.sc (.int .i64 (99 - nx + 1))]])) :
    Pn σ p2 t2 nx E (L ++ [⟨p, t, nx, E⟩]) d5 d6 (H ++ [dh]) := by
  refine ⟨h2, gd, fun o ho => ?_, fun o ho => ?_, by rw [List.map_append]; exact hO, by rw [List.map_append]; exact hW, by simp [hl], fun k o d h3 h4 => ?_⟩
  · rcases List.mem_append.1 ho with ho | ho
    · exact hold o ho
    · rw [List.mem_singleton] at ho; subst ho
      exact ⟨hpl, gd, hE⟩
  · rcases List.mem_append.1 ho with ho | ho
    · have := hlt o ho; exact ⟨by omega, by omega⟩
    · rw [List.mem_singleton] at ho; subst ho
      exact ⟨by show p ≠ p2; omega, by show t ≠ t2; omega⟩
  · by_cases hk : k < L.length
    · rw [List.getElem?_append_left hk] at h3
      rw [List.getElem?_append_left (by omega)] at h4
      exact hH k o d h3 h4
    · rw [List.getElem?_append_right (by omega)] at h3
      rw [List.getElem?_append_right (by omega), hl] at h4
      have hk0 : k - L.length = 0 := by
        have := (List.getElem?_eq_some_iff.1 h3).1
        simp at this; omega
      rw [hk0] at h3 h4
      simp at h3 h4
      subst h3; subst h4
      simpa [wasOf, eZ'] using hh
end Go.Proofs.Ythdamnemoaaigaa.Cm
