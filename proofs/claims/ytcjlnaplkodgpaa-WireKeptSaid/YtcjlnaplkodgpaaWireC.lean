/- The document's Take, of a note that is there. -/
import Derived.Test.YtcjlnaplkodgpaaWireB
namespace Go.Proofs.Ytcjlnaplkodgpaa.Cm
open Go.RowKit
set_option linter.unusedVariables false
set_option linter.unusedSimpArgs false
set_option maxRecDepth 20000
set_option maxHeartbeats 8000000
theorem skip_succ {l : List Nt} {k j : Nat} (hj : j < l.length) : (l.take (j + 1)).eraseIdx k = if j = k then (l.take j).eraseIdx k else (l.take j).eraseIdx k ++ [l[j]] := by
  rw [List.take_add_one, List.getElem?_eq_getElem hj, Option.toList_some]
  by_cases h : j = k
  · subst h
    have hlj : (l.take j).length = j := by simp; omega
    rw [if_pos rfl, List.eraseIdx_append_of_length_le (by omega), List.eraseIdx_of_length_le (l := l.take j) (by omega), hlj]
    simp
  · rw [if_neg h]
    by_cases hk : k < j
    · rw [List.eraseIdx_append_of_lt_length (by simp; omega)]
    · rw [List.eraseIdx_append_of_length_le (by simp; omega), List.eraseIdx_of_length_le (by simp; omega), List.eraseIdx_of_length_le (l := l.take j) (by simp; omega)]
def takI (w : Wi) (k a : Nat) (σ0 : Heap) (m : Nat) (ts : List DV) (σ : Heap) : Prop := ∃ j d, m = w.l.length + 1 - j ∧ j ≤ w.l.length ∧ Hold σ d 28 (((w.l.take j).eraseIdx k).map eN) ∧ (∀ q ∈ tOf d, σ0.n ≤ q) ∧ Ext [] σ0 σ ∧ TellsL ts (.any :: .sc (.int .i64 k) :: .ptr a 0 0 1 :: .any :: .ptr (a + 1) 0 0 1 :: .ptr (a + 2) 0 0 1 :: .sc (.int .i64 0) :: .ptr (a + 3) 0 0 1 :: d :: .sc (.int .i64 j) :: .any :: .any :: .any :: .any :: .any :: .any :: .any :: .any :: .any :: .any :: .any :: .any :: .any :: .any :: .any :: .any :: .any :: .any :: .any :: .any :: .any :: .any :: .any :: .any :: .any :: .any :: .any :: .any :: .any :: .any :: .any :: .any :: .any :: .any :: .any :: .any :: .any :: .any :: [])
theorem rtake_yes (σ : Heap) (w : Wi) (k : Nat) (hl : k < w.l.length) (hk : w.Ok) : ACalls Try.prog 17 [.agg (eW w), .sc (.int .i64 k)] σ (fun y σ' => y = .tup [.agg (eW { w with l := w.l.eraseIdx k }), .agg (eN w.l[k]), .sc (.int .i64 0)] ∧ Ext [] σ σ') := by
  refine ACalls.toImmG (e := 28) (els := (w.l.eraseIdx k).map eN) (fun d => .tup [.agg [d, .sc (.int .i64 w.room), .sc (.int .i64 w.lost)], .agg (eN w.l[k]), .sc (.int .i64 0)]) ?_ ?_ ?_
  · intro t m es d d' h
    obtain ⟨h1, h2⟩ := FZL.spec (t := t) (m := m) (els := es) (l := [d, .sc (.int .i64 w.room), .sc (.int .i64 w.lost)]) (l' := [d', .sc (.int .i64 w.room), .sc (.int .i64 w.lost)]) ⟨h, .keep _, .keep _, trivial⟩
    obtain ⟨h3, h4⟩ := FZL.spec (t := t) (m := m) (els := es) (l := [.agg [d, .sc (.int .i64 w.room), .sc (.int .i64 w.lost)], .agg (eN w.l[k]), .sc (.int .i64 0)]) (l' := [.agg [d', .sc (.int .i64 w.room), .sc (.int .i64 w.lost)], .agg (eN w.l[k]), .sc (.int .i64 0)]) ⟨.agg h1 h2, .keep _, .keep _, trivial⟩
    exact .tup h3 h4
  · exact Tells.tup ⟨Tells.agg ⟨Tells.nil, Tells.refl _, Tells.refl _, trivial⟩, Tells.refl _, Tells.refl _, trivial⟩
  have ml : (w.l.map eN).length = w.l.length := by simp
  obtain ⟨x, hx⟩ : ∃ x, x = w.l[k] := ⟨_, rfl⟩
  have hel : (w.l.map eN)[k]? = some (eN x) := by rw [List.getElem?_map, List.getElem?_eq_getElem hl, hx]; rfl
  have a1 : ((0 : Int) ≤ (k : Int)) = True := by simp
  have a2 : ((k : Int) < (w.l.length : Int)) = True := by simp; omega
  have d0 : decide ((k : Int) < 0) = false := by simp
  have d1 : decide ((w.l.length : Int) ≤ (k : Int)) = false := by simp; omega
  rw [← hx]
  rw [eN_eq] at hel
  refine ACalls.code hT Try.func17 rfl ?_
  simp only [Try.ntmps17, List.length_cons, List.length_nil, Nat.reduceSub, Nat.reduceAdd, List.replicate, List.cons_append, List.nil_append]
  simp only [eW_eq]
  repeat (first | (with_reducible refine AW.seq ?_) | (with_reducible refine AW.block ?_) | (with_reducible refine AW.skip ?_) | (with_reducible refine AW.ret ?_) | (with_reducible refine AW.exit ?_) | (with_reducible refine AW.reg hT ?_) | ((with_reducible show AW _ (.region 11 _ _) _ _ _); (with_reducible refine AW.drawn (id := 11) hT [0,1,2,3,4] [[],[],[0],[0,1,2],[0,1,2,3]] mix (by kernel_rfl) ?_)) | ((with_reducible show DLeft _ _ _ _ (_ :: _) _ _ _ _); (with_reducible apply DLeft.step hT); (case hoi => ((simp only [List.getElem?_toArray,List.getElem?_cons_zero,List.getElem?_cons_succ]); with_reducible rfl)); (case hg => rfl); (case hk => rfl); (case hr => ((try simp (maxSteps := 3000000) (maxDischargeDepth := 12) only [push_cast,appendX,reduceIte,reduceCtorEq,Nat.reduceSub,Nat.reduceAdd,Nat.reduceMul,Nat.reduceLT,Nat.reduceLeDiff,Nat.reduceEqDiff,Nat.reduceBEq,Int.reduceToNat,Int.reduceLT,Int.reduceLE,Int.reduceEq,Int.reduceNeg,Try.results17,ml,d0,d1,hel,a1,a2]); with_reducible rfl))) | ((with_reducible refine AW.cond_true ?_ ?_); · rfl) | ((with_reducible refine AW.cond_false ?_ ?_); · rfl) | simp (maxSteps := 3000000) (maxDischargeDepth := 12) only [push_cast,appendX,reduceIte,reduceCtorEq,Nat.reduceSub,Nat.reduceAdd,Nat.reduceMul,Nat.reduceLT,Nat.reduceLeDiff,Nat.reduceEqDiff,Nat.reduceBEq,Int.reduceToNat,Int.reduceLT,Int.reduceLE,Int.reduceEq,Int.reduceNeg,Try.results17,ml,d0,d1,hel,a1,a2])
  refine AW.name (fun σ0 hσ0 => ?_)
  have b0 : σ0.get σ.n = some ⟨[[.imm (w.l.map eN), .sc (.int .i64 w.room), .sc (.int .i64 w.lost)]], 41, true⟩ := by rw [hσ0]; simp (maxSteps := 3000000) (maxDischargeDepth := 12) only [push_cast, appendX, Nat.reduceAdd, Nat.reduceEqDiff, Nat.reduceLT, Nat.reduceLeDiff, reduceIte, reduceCtorEq]
  have b3 : σ0.get (σ.n + 3) = some ⟨[eN x], 28, true⟩ := by rw [hσ0]; simp (maxSteps := 3000000) (maxDischargeDepth := 12) only [push_cast, appendX, Nat.reduceAdd, Nat.reduceEqDiff, Nat.reduceLT, Nat.reduceLeDiff, reduceIte, reduceCtorEq]; rfl
  have b1 : σ0.get (σ.n + 1) = some ⟨[[.sc (.slice none 0 0), .sc (.int .i64 0), .sc (.int .i64 0)]], 41, true⟩ := by rw [hσ0]; simp (maxSteps := 3000000) (maxDischargeDepth := 12) only [push_cast, appendX, Nat.reduceAdd, Nat.reduceEqDiff, Nat.reduceLT, Nat.reduceLeDiff, reduceIte, reduceCtorEq]
  have b2 : σ0.get (σ.n + 2) = some ⟨[[.sc (.int .i64 0), .sc (.int .i64 0), .sc (.int .i64 0), .sc (.slice none 0 0)]], 28, true⟩ := by rw [hσ0]; simp (maxSteps := 3000000) (maxDischargeDepth := 12) only [push_cast, appendX, Nat.reduceAdd, Nat.reduceEqDiff, Nat.reduceLT, Nat.reduceLeDiff, reduceIte, reduceCtorEq]
  have hn : σ0.n = σ.n + 4 := by rw [hσ0]; simp (maxSteps := 3000000) (maxDischargeDepth := 12) only [push_cast, appendX, Nat.reduceAdd, Nat.reduceEqDiff, Nat.reduceLT, Nat.reduceLeDiff, reduceIte, reduceCtorEq]
  have hx0 : Ext [] σ σ0 := by rw [hσ0]; repeat (first | exact Ext.refl _ _ | assumption | refine Ext.push ?_ _ | ((refine Ext.set ?_ ?_ _); rotate_left; · (simp (maxSteps := 3000000) (maxDischargeDepth := 12) only [push_cast, appendX, Nat.reduceAdd, Nat.reduceEqDiff, Nat.reduceLT, Nat.reduceLeDiff, reduceIte, reduceCtorEq])) | ((refine Ext.then1 (by assumption) ?_ ?_); rotate_left; · (intro p hp _; first | assumption | exact List.mem_cons_of_mem _ hp | (cases hp; done) | (simp at hp; subst hp; simp))))
  refine AW.loop (takI w k σ.n σ0) (m := w.l.length + 1) ⟨0, .sc (.slice none 0 0), rfl, Nat.zero_le _, by simpa using Hold.nil _ _, by simp [tOf], Ext.refl _ _, by (simp only [push_cast, TellsL, tells_any, tells_refl])⟩ ?_
  clear hσ0
  rintro m ts σ3 ⟨j, d, rfl, hjl, hh, hnew, hext, hts⟩
  refine AW.told hts ?_
  clear hts
  have b03 := hext.get b0 (by simp)
  have b33 := hext.get b3 (by simp)
  have b13 := hext.get b1 (by simp)
  have b23 := hext.get b2 (by simp)
  by_cases hlt : j < w.l.length
  · have d2 : decide ((j : Int) < (w.l.length : Int)) = true := by simp; omega
    have hic : (((j + 1 : Nat)) : Int) = (j : Int) + 1 := by omega
    have hwr : IntKind.i64.wrap ((j : Int) + 1) = (j : Int) + 1 := wrap_i64 (by omega) (by have := hk.len; omega)
    have hsk := skip_succ (k := k) hlt
    by_cases hjk : j = k
    · have d3 : ((j : Int) == (k : Int)) = true := by simp; omega
      rw [if_pos hjk] at hsk
      repeat (first | (with_reducible refine AW.seq ?_) | (with_reducible refine AW.block ?_) | (with_reducible refine AW.skip ?_) | (with_reducible refine AW.ret ?_) | (with_reducible refine AW.exit ?_) | (with_reducible refine AW.reg hT ?_) | ((with_reducible show AW _ (.region 11 _ _) _ _ _); (with_reducible refine AW.drawn (id := 11) hT [0,1,2,3,4] [[],[],[0],[0,1,2],[0,1,2,3]] mix (by kernel_rfl) ?_)) | ((with_reducible show DLeft _ _ _ _ (_ :: _) _ _ _ _); (with_reducible apply DLeft.step hT); (case hoi => ((simp only [List.getElem?_toArray,List.getElem?_cons_zero,List.getElem?_cons_succ]); with_reducible rfl)); (case hg => rfl); (case hk => rfl); (case hr => ((try simp (maxSteps := 3000000) (maxDischargeDepth := 12) only [push_cast,appendX,reduceIte,reduceCtorEq,Nat.reduceSub,Nat.reduceAdd,Nat.reduceMul,Nat.reduceLT,Nat.reduceLeDiff,Nat.reduceEqDiff,Nat.reduceBEq,Int.reduceToNat,Int.reduceLT,Int.reduceLE,Int.reduceEq,Int.reduceNeg,Try.results17,ml,d2,d3,hwr,b03,Heap.lt b03]); with_reducible rfl))) | ((with_reducible refine AW.cond_true ?_ ?_); · rfl) | ((with_reducible refine AW.cond_false ?_ ?_); · rfl) | simp (maxSteps := 3000000) (maxDischargeDepth := 12) only [push_cast,appendX,reduceIte,reduceCtorEq,Nat.reduceSub,Nat.reduceAdd,Nat.reduceMul,Nat.reduceLT,Nat.reduceLeDiff,Nat.reduceEqDiff,Nat.reduceBEq,Int.reduceToNat,Int.reduceLT,Int.reduceLE,Int.reduceEq,Int.reduceNeg,Try.results17,ml,d2,d3,hwr,b03,Heap.lt b03])
      exact ⟨w.l.length + 1 - (j + 1), by omega, j + 1, d, rfl, hlt, by rw [hsk]; exact hh, hnew, hext, by (simp only [push_cast, TellsL, tells_any, tells_refl, hic])⟩
    · have d3 : ((j : Int) == (k : Int)) = false := by simp; omega
      rw [if_neg hjk] at hsk
      obtain ⟨z, hz⟩ : ∃ z, z = w.l[j] := ⟨_, rfl⟩
      rw [← hz] at hsk
      have hel2 : (w.l.map eN)[j]? = some (eN z) := by rw [List.getElem?_map, List.getElem?_eq_getElem hlt, hz]; rfl
      have a3 : ((0 : Int) ≤ (j : Int)) = True := by simp
      have a4 : ((j : Int) < (w.l.length : Int)) = True := by simp; omega
      rw [eN_eq] at hel2
      obtain ⟨d', σ6, happ, hh6, hx6, hfp6⟩ := Hold.append (T := T) (ty := 22) (x := .sl σ3.n 0 1 1) (xs := [eN z]) (hh.frame (X := []) (σ' := σ3.push ⟨[eN z], 28, true⟩) (by repeat (first | exact Ext.refl _ _ | assumption | refine Ext.push ?_ _ | ((refine Ext.set ?_ ?_ _); rotate_left; · (simp (maxSteps := 3000000) (maxDischargeDepth := 12) only [push_cast, appendX, Nat.reduceAdd, Nat.reduceEqDiff, Nat.reduceLT, Nat.reduceLeDiff, reduceIte, reduceCtorEq])) | ((refine Ext.then1 (by assumption) ?_ ?_); rotate_left; · (intro p hp _; first | assumption | exact List.mem_cons_of_mem _ hp | (cases hp; done) | (simp at hp; subst hp; simp))))) (by simp)) rfl rfl (by decide) (by simp (maxSteps := 3000000) (maxDischargeDepth := 12) only [push_cast,appendX,reduceIte,reduceCtorEq,Nat.reduceSub,Nat.reduceAdd,Nat.reduceMul,Nat.reduceLT,Nat.reduceLeDiff,Nat.reduceEqDiff,Nat.reduceBEq,Int.reduceToNat,Int.reduceLT,Int.reduceLE,Int.reduceEq,Int.reduceNeg,sliceD]) (by simp) rfl (by
        have h1 : ((w.l.take j).eraseIdx k).length ≤ w.l.length := Nat.le_trans (List.length_eraseIdx_le _ _) (by simp; omega)
        have := hk.len; simp only [List.length_map, List.length_cons, List.length_nil]; omega)
      have happ' := happ
      simp only [eN_eq] at happ'
      repeat (first | (with_reducible refine AW.seq ?_) | (with_reducible refine AW.block ?_) | (with_reducible refine AW.skip ?_) | (with_reducible refine AW.ret ?_) | (with_reducible refine AW.exit ?_) | (with_reducible refine AW.reg hT ?_) | ((with_reducible show AW _ (.region 11 _ _) _ _ _); (with_reducible refine AW.drawn (id := 11) hT [0,1,2,3,4] [[],[],[0],[0,1,2],[0,1,2,3]] mix (by kernel_rfl) ?_)) | ((with_reducible show DLeft _ _ _ _ (_ :: _) _ _ _ _); (with_reducible apply DLeft.step hT); (case hoi => ((simp only [List.getElem?_toArray,List.getElem?_cons_zero,List.getElem?_cons_succ]); with_reducible rfl)); (case hg => rfl); (case hk => rfl); (case hr => ((try simp (maxSteps := 3000000) (maxDischargeDepth := 12) only [push_cast,appendX,reduceIte,reduceCtorEq,Nat.reduceSub,Nat.reduceAdd,Nat.reduceMul,Nat.reduceLT,Nat.reduceLeDiff,Nat.reduceEqDiff,Nat.reduceBEq,Int.reduceToNat,Int.reduceLT,Int.reduceLE,Int.reduceEq,Int.reduceNeg,Try.results17,ml,d2,d3,hwr,b03,Heap.lt b03,a3,a4,hel2,↓happ']); with_reducible rfl))) | ((with_reducible refine AW.cond_true ?_ ?_); · rfl) | ((with_reducible refine AW.cond_false ?_ ?_); · rfl) | simp (maxSteps := 3000000) (maxDischargeDepth := 12) only [push_cast,appendX,reduceIte,reduceCtorEq,Nat.reduceSub,Nat.reduceAdd,Nat.reduceMul,Nat.reduceLT,Nat.reduceLeDiff,Nat.reduceEqDiff,Nat.reduceBEq,Int.reduceToNat,Int.reduceLT,Int.reduceLE,Int.reduceEq,Int.reduceNeg,Try.results17,ml,d2,d3,hwr,b03,Heap.lt b03,a3,a4,hel2,↓happ'])
      refine ⟨w.l.length + 1 - (j + 1), by omega, j + 1, d', rfl, hlt, ?_, ?_, ?_, ?_⟩
      · rw [hsk, List.map_append]; exact hh6
      · intro q hq
        rcases Nat.lt_or_ge q (σ3.push ⟨[eN z], 28, true⟩).n with h | h
        · exact hnew q (hfp6 q h hq)
        · have h1 := hext.1; simp at h; omega
      · exact (hext.push _).then hx6 (fun q hq hlq => absurd (hnew q hq) (by omega))
      · (simp only [push_cast, TellsL, tells_any, tells_refl, hic])
  · have d2 : decide ((j : Int) < (w.l.length : Int)) = false := by simp; omega
    have he : j = w.l.length := by omega
    subst he
    rw [List.take_length] at hh
    have hcl := hh.cells
    have hlf := hh.leaf
    rw [eN_eq] at b33
    repeat (first | (with_reducible refine AW.seq ?_) | (with_reducible refine AW.block ?_) | (with_reducible refine AW.skip ?_) | (with_reducible refine AW.ret ?_) | (with_reducible refine AW.exit ?_) | (with_reducible refine AW.reg hT ?_) | ((with_reducible show AW _ (.region 11 _ _) _ _ _); (with_reducible refine AW.drawn (id := 11) hT [0,1,2,3,4] [[],[],[0],[0,1,2],[0,1,2,3]] mix (by kernel_rfl) ?_)) | ((with_reducible show DLeft _ _ _ _ (_ :: _) _ _ _ _); (with_reducible apply DLeft.step hT); (case hoi => ((simp only [List.getElem?_toArray,List.getElem?_cons_zero,List.getElem?_cons_succ]); with_reducible rfl)); (case hg => rfl); (case hk => rfl); (case hr => ((try simp (maxSteps := 3000000) (maxDischargeDepth := 12) only [push_cast,appendX,reduceIte,reduceCtorEq,Nat.reduceSub,Nat.reduceAdd,Nat.reduceMul,Nat.reduceLT,Nat.reduceLeDiff,Nat.reduceEqDiff,Nat.reduceBEq,Int.reduceToNat,Int.reduceLT,Int.reduceLE,Int.reduceEq,Int.reduceNeg,Try.results17,ml,d2,b03,Heap.lt b03,b33,Heap.lt b33,b13,Heap.lt b13,b23,Heap.lt b23,↓hcl,↓hlf]); with_reducible rfl))) | ((with_reducible refine AW.cond_true ?_ ?_); · rfl) | ((with_reducible refine AW.cond_false ?_ ?_); · rfl) | simp (maxSteps := 3000000) (maxDischargeDepth := 12) only [push_cast,appendX,reduceIte,reduceCtorEq,Nat.reduceSub,Nat.reduceAdd,Nat.reduceMul,Nat.reduceLT,Nat.reduceLeDiff,Nat.reduceEqDiff,Nat.reduceBEq,Int.reduceToNat,Int.reduceLT,Int.reduceLE,Int.reduceEq,Int.reduceNeg,Try.results17,ml,d2,b03,Heap.lt b03,b33,Heap.lt b33,b13,Heap.lt b13,b23,Heap.lt b23,↓hcl,↓hlf])
    refine ⟨d, by rw [eN_eq], hh.frame (X := [σ.n, σ.n + 1, σ.n + 2]) ?_ ?_, fun q hq => by have := hnew q hq; omega, ?_⟩
    · repeat (first | exact Ext.refl _ _ | assumption | refine Ext.push ?_ _ | ((refine Ext.set ?_ ?_ _); rotate_left; · (simp (maxSteps := 3000000) (maxDischargeDepth := 12) only [push_cast, appendX, Nat.reduceAdd, Nat.reduceEqDiff, Nat.reduceLT, Nat.reduceLeDiff, reduceIte, reduceCtorEq])) | ((refine Ext.then1 (by assumption) ?_ ?_); rotate_left; · (intro p hp _; first | assumption | exact List.mem_cons_of_mem _ hp | (cases hp; done) | (simp at hp; subst hp; simp))))
    · intro q hq hm
      have := hnew q hq
      simp at hm; omega
    · have hx3 := hx0.trans hext
      repeat (first | exact Ext.refl _ _ | assumption | refine Ext.push ?_ _ | ((refine Ext.set ?_ ?_ _); rotate_left; · (simp (maxSteps := 3000000) (maxDischargeDepth := 12) only [push_cast, appendX, Nat.reduceAdd, Nat.reduceEqDiff, Nat.reduceLT, Nat.reduceLeDiff, reduceIte, reduceCtorEq])) | ((refine Ext.then1 (by assumption) ?_ ?_); rotate_left; · (intro p hp _; first | assumption | exact List.mem_cons_of_mem _ hp | (cases hp; done) | (simp at hp; subst hp; simp))))
end Go.Proofs.Ytcjlnaplkodgpaa.Cm
