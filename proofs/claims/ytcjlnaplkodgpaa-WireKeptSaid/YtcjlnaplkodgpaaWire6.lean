/- Package wire: All; the document's with, All; the law's List. -/
import Derived.Test.YtcjlnaplkodgpaaWire4
namespace Go.Proofs.Ytcjlnaplkodgpaa.Cm
open Go.RowKit
set_option linter.unusedVariables false
set_option linter.unusedSimpArgs false
set_option maxRecDepth 20000
set_option maxHeartbeats 8000000
def lstI (l : List Nt) (σ0 : Heap) (m : Nat) (ts : List DV) (σ : Heap) : Prop := ∃ i d, m = l.length + 1 - i ∧ i ≤ l.length ∧ Hold σ d 28 ((l.take i).map eN) ∧ (∀ q ∈ tOf d, σ0.n ≤ q) ∧ Ext [] σ0 σ ∧ TellsL ts (.any :: .any :: .any :: d :: .any :: .any :: .imm (l.map eN) :: .sc (.int .i64 l.length) :: .sc (.int .i64 i) :: .any :: .any :: .any :: .any :: .any :: .any :: .any :: .any :: .any :: .any :: [])
theorem list_ok (σ : Heap) (l : List Nt) (hl : l.length ≤ 1000000) : ACalls Try.prog 21 [.imm (l.map eN)] σ (fun x σ' => x = .imm (l.map eN) ∧ Ext [] σ σ') := by
  refine ACalls.toImmH (e := 28) ?_
  have ml : (l.map eN).length = l.length := by simp
  refine ACalls.code hT Try.func21 rfl ?_
  simp only [Try.ntmps21, List.length_cons, List.length_nil, Nat.reduceSub, Nat.reduceAdd, List.replicate, List.cons_append, List.nil_append]
  repeat (first | (with_reducible refine AW.seq ?_) | (with_reducible refine AW.block ?_) | (with_reducible refine AW.skip ?_) | (with_reducible refine AW.ret ?_) | (with_reducible refine AW.exit ?_) | (with_reducible refine AW.reg hT ?_) | ((with_reducible refine AW.cond_true ?_ ?_); · rfl) | ((with_reducible refine AW.cond_false ?_ ?_); · rfl) | simp (maxSteps := 3000000) (maxDischargeDepth := 12) only [push_cast,appendX,reduceIte,reduceCtorEq,Nat.reduceSub,Nat.reduceAdd,Nat.reduceMul,Nat.reduceLT,Nat.reduceLeDiff,Nat.reduceEqDiff,Nat.reduceBEq,Int.reduceToNat,Int.reduceLT,Int.reduceLE,Int.reduceEq,Int.reduceNeg,Try.results21,ml])
  refine AW.loop (lstI l σ) (m := l.length + 1) ⟨0, .sc (.slice none 0 0), rfl, Nat.zero_le _, Hold.nil _ _, by simp [tOf], Ext.refl _ _, by (simp only [push_cast, TellsL, tells_any, tells_refl])⟩ ?_
  rintro m ts σ3 ⟨i, d, rfl, hil, hh, hnew, hext, hts⟩
  refine AW.told hts ?_
  clear hts
  by_cases hlt : i < l.length
  · have d1 : decide ((i : Int) < (l.length : Int)) = true := by simp; omega
    obtain ⟨x, hx⟩ : ∃ x, x = l[i] := ⟨_, rfl⟩
    have hel : (l.map eN)[i]? = some (eN x) := by rw [List.getElem?_map, List.getElem?_eq_getElem hlt, hx]; rfl
    have a1 : ((0 : Int) ≤ (i : Int)) = True := by simp
    have a2 : ((i : Int) < (l.length : Int)) = True := by simp; omega
    have hic : (((i + 1 : Nat)) : Int) = (i : Int) + 1 := by omega
    have hwr : IntKind.i64.wrap ((i : Int) + 1) = (i : Int) + 1 := wrap_i64 (by omega) (by omega)
    rw [eN_eq] at hel
    repeat (first | (with_reducible refine AW.seq ?_) | (with_reducible refine AW.block ?_) | (with_reducible refine AW.skip ?_) | (with_reducible refine AW.ret ?_) | (with_reducible refine AW.exit ?_) | (with_reducible refine AW.reg hT ?_) | ((with_reducible refine AW.cond_true ?_ ?_); · rfl) | ((with_reducible refine AW.cond_false ?_ ?_); · rfl) | simp (maxSteps := 3000000) (maxDischargeDepth := 12) only [push_cast,appendX,reduceIte,reduceCtorEq,Nat.reduceSub,Nat.reduceAdd,Nat.reduceMul,Nat.reduceLT,Nat.reduceLeDiff,Nat.reduceEqDiff,Nat.reduceBEq,Int.reduceToNat,Int.reduceLT,Int.reduceLE,Int.reduceEq,Int.reduceNeg,Try.results21,ml,d1,a1,a2,hel])
    refine AOpsL.call (first := []) (cap := []) hT rfl rfl rfl fn13 rfl (ACalls.mono (ours_ok _ x) ?_)
    rintro y σ4 ⟨rfl, hx4⟩
    simp only [eN_eq]
    obtain ⟨d', σ6, happ, hh6, hx6, hfp6⟩ := Hold.append (T := T) (ty := 22) (x := .sl σ4.n 0 1 1) (xs := [eN x]) (hh.frame (X := []) (σ' := σ4.push ⟨[eN x], 28, true⟩) (by repeat (first | exact Ext.refl _ _ | assumption | refine Ext.push ?_ _ | ((refine Ext.set ?_ ?_ _); rotate_left; · (simp (maxSteps := 3000000) (maxDischargeDepth := 12) only [push_cast, appendX, Nat.reduceAdd, Nat.reduceEqDiff, Nat.reduceLT, Nat.reduceLeDiff, reduceIte, reduceCtorEq])) | ((refine Ext.then1 (by assumption) ?_ ?_); rotate_left; · (intro p hp _; first | assumption | exact List.mem_cons_of_mem _ hp | (cases hp; done) | (simp at hp; subst hp; simp))))) (by simp)) rfl rfl (by decide) (by simp (maxSteps := 3000000) (maxDischargeDepth := 12) only [push_cast,appendX,reduceIte,reduceCtorEq,Nat.reduceSub,Nat.reduceAdd,Nat.reduceMul,Nat.reduceLT,Nat.reduceLeDiff,Nat.reduceEqDiff,Nat.reduceBEq,Int.reduceToNat,Int.reduceLT,Int.reduceLE,Int.reduceEq,Int.reduceNeg,sliceD]) (by simp) rfl (by simp; omega)
    have happ' := happ
    simp only [eN_eq] at happ'
    repeat (first | (with_reducible refine AW.seq ?_) | (with_reducible refine AW.block ?_) | (with_reducible refine AW.skip ?_) | (with_reducible refine AW.ret ?_) | (with_reducible refine AW.exit ?_) | (with_reducible refine AW.reg hT ?_) | ((with_reducible refine AW.cond_true ?_ ?_); · rfl) | ((with_reducible refine AW.cond_false ?_ ?_); · rfl) | simp (maxSteps := 3000000) (maxDischargeDepth := 12) only [push_cast,appendX,reduceIte,reduceCtorEq,Nat.reduceSub,Nat.reduceAdd,Nat.reduceMul,Nat.reduceLT,Nat.reduceLeDiff,Nat.reduceEqDiff,Nat.reduceBEq,Int.reduceToNat,Int.reduceLT,Int.reduceLE,Int.reduceEq,Int.reduceNeg,Try.results21,hwr,↓happ'])
    refine ⟨l.length + 1 - (i + 1), by omega, i + 1, d', rfl, hlt, ?_, ?_, ?_, ?_⟩
    · rw [List.take_add_one, List.getElem?_eq_getElem hlt, Option.toList_some, List.map_append, ← hx]
      exact hh6
    · intro q hq
      rcases Nat.lt_or_ge q (σ4.push ⟨[eN x], 28, true⟩).n with h | h
      · exact hnew q (hfp6 q h hq)
      · have h1 := hext.1; have h2 := hx4.1; simp at h h2; omega
    · have h7 : Ext [] σ (σ4.push ⟨[eN x], 28, true⟩) := by repeat (first | exact Ext.refl _ _ | assumption | refine Ext.push ?_ _ | ((refine Ext.set ?_ ?_ _); rotate_left; · (simp (maxSteps := 3000000) (maxDischargeDepth := 12) only [push_cast, appendX, Nat.reduceAdd, Nat.reduceEqDiff, Nat.reduceLT, Nat.reduceLeDiff, reduceIte, reduceCtorEq, hext.2, hext.ltT, hext.leT])) | ((refine Ext.then1 (by assumption) ?_ ?_); rotate_left; · (intro p hp _; first | assumption | exact List.mem_cons_of_mem _ hp | (cases hp; done) | (simp at hp; subst hp; simp))))
      exact h7.then hx6 (fun q hq hlq => absurd (hnew q hq) (by omega))
    · (simp only [push_cast, TellsL, tells_any, tells_refl, hic])
  · have d1 : decide ((i : Int) < (l.length : Int)) = false := by simp; omega
    repeat (first | (with_reducible refine AW.seq ?_) | (with_reducible refine AW.block ?_) | (with_reducible refine AW.skip ?_) | (with_reducible refine AW.ret ?_) | (with_reducible refine AW.exit ?_) | (with_reducible refine AW.reg hT ?_) | ((with_reducible refine AW.cond_true ?_ ?_); · rfl) | ((with_reducible refine AW.cond_false ?_ ?_); · rfl) | simp (maxSteps := 3000000) (maxDischargeDepth := 12) only [push_cast,appendX,reduceIte,reduceCtorEq,Nat.reduceSub,Nat.reduceAdd,Nat.reduceMul,Nat.reduceLT,Nat.reduceLeDiff,Nat.reduceEqDiff,Nat.reduceBEq,Int.reduceToNat,Int.reduceLT,Int.reduceLE,Int.reduceEq,Int.reduceNeg,Try.results21,d1])
    have he : i = l.length := by omega
    subst he
    rw [List.take_length] at hh
    exact ⟨hh, hnew, hext⟩
end Go.Proofs.Ytcjlnaplkodgpaa.Cm
