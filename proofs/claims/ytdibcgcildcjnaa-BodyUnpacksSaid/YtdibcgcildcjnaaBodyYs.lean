/- The document's package body: which items may be. The document's package body: May. The document's package body: pieces, laid one behind the other. -/
import Derived.Test.YtdibcgcildcjnaaBodyYr
import Derived.Test.YtdibcgcildcjnaaCOct3
namespace Go.Proofs.Ytdibcgcildcjnaa.Cm
open Go.RowKit
set_option linter.unusedVariables false
set_option linter.unusedSimpArgs false
set_option maxRecDepth 20000
set_option maxHeartbeats 8000000
theorem forall_isF {P : Nat → Prop} : (∀ j, isF j → P j) ↔ (P 1 ∧ P 2 ∧ P 3 ∧ P 4 ∧ P 6 ∧ P 7 ∧ P 8 ∧ P 9 ∧ P 10 ∧ P 11) := by
  constructor
  · intro h
    exact ⟨h 1 (by simp [isF]), h 2 (by simp [isF]), h 3 (by simp [isF]), h 4 (by simp [isF]), h 6 (by simp [isF]), h 7 (by simp [isF]), h 8 (by simp [isF]), h 9 (by simp [isF]), h 10 (by simp [isF]), h 11 (by simp [isF])⟩
  · rintro ⟨h1, h2, h3, h4, h6, h7, h8, h9, h10, h11⟩ j hj
    rcases hj with rfl | rfl | rfl | rfl | rfl | rfl | rfl | rfl | rfl | rfl <;> assumption
theorem rNode_ok (σ : Heap) (n : Int) : ACalls Try.prog 35 [.sc (.int .i64 n)] σ (fun y σ' => y = .sc (.bool (decide (0 ≤ n ∧ n < 16))) ∧ σ' = σ) := by
  refine ACalls.code hT Try.func35 rfl ?_
  simp only [Try.ntmps35, List.length_cons, List.length_nil, Nat.reduceSub, Nat.reduceAdd, List.replicate, List.cons_append, List.nil_append]
  by_cases h1 : 0 ≤ n
  · have dc1 : decide (0 ≤ n) = true := decide_eq_true h1
    repeat (first | (with_reducible first | refine AW.seq ?_ | refine AW.block ?_ | refine AW.skip ?_ | refine AW.ret ?_ | refine AW.exit ?_ | refine AW.reg hT ?_) | ((with_reducible refine AW.cond_true ?_ ?_); · rfl) | ((with_reducible refine AW.cond_false ?_ ?_); · rfl) | simp (maxSteps := 3000000) (maxDischargeDepth := 12) only [seval,push_cast,appendX,Try.results35,dc1])
    simp [h1]
  · have dc1 : decide (0 ≤ n) = false := decide_eq_false h1
    repeat (first | (with_reducible first | refine AW.seq ?_ | refine AW.block ?_ | refine AW.skip ?_ | refine AW.ret ?_ | refine AW.exit ?_ | refine AW.reg hT ?_) | ((with_reducible refine AW.cond_true ?_ ?_); · rfl) | ((with_reducible refine AW.cond_false ?_ ?_); · rfl) | simp (maxSteps := 3000000) (maxDischargeDepth := 12) only [seval,push_cast,appendX,Try.results35,dc1])
    simp [h1]
theorem rSmall_ok (σ : Heap) (n : Int) : ACalls Try.prog 36 [.sc (.int .i64 n)] σ (fun y σ' => y = .sc (.bool (decide (0 ≤ n ∧ n ≤ 65535))) ∧ σ' = σ) := by
  refine ACalls.code hT Try.func36 rfl ?_
  simp only [Try.ntmps36, List.length_cons, List.length_nil, Nat.reduceSub, Nat.reduceAdd, List.replicate, List.cons_append, List.nil_append]
  by_cases h1 : 0 ≤ n
  · have dc1 : decide (0 ≤ n) = true := decide_eq_true h1
    repeat (first | (with_reducible first | refine AW.seq ?_ | refine AW.block ?_ | refine AW.skip ?_ | refine AW.ret ?_ | refine AW.exit ?_ | refine AW.reg hT ?_) | ((with_reducible refine AW.cond_true ?_ ?_); · rfl) | ((with_reducible refine AW.cond_false ?_ ?_); · rfl) | simp (maxSteps := 3000000) (maxDischargeDepth := 12) only [seval,push_cast,appendX,Try.results36,dc1])
    simp [h1]
  · have dc1 : decide (0 ≤ n) = false := decide_eq_false h1
    repeat (first | (with_reducible first | refine AW.seq ?_ | refine AW.block ?_ | refine AW.skip ?_ | refine AW.ret ?_ | refine AW.exit ?_ | refine AW.reg hT ?_) | ((with_reducible refine AW.cond_true ?_ ?_); · rfl) | ((with_reducible refine AW.cond_false ?_ ?_); · rfl) | simp (maxSteps := 3000000) (maxDischargeDepth := 12) only [seval,push_cast,appendX,Try.results36,dc1])
    simp [h1]
def rnI (L : List Int) (σ0 : Heap) (m : Nat) (ts : List DV) (σ : Heap) : Prop := ∃ i, m = L.length + 1 - i ∧ i ≤ L.length ∧ (∀ v ∈ L.take i, 0 ≤ v ∧ v < 16) ∧ σ = σ0 ∧ TellsL ts (.imm (L.map eI) :: .any :: .any :: .sc (.int .i64 i) :: .any :: .any :: .any :: .any :: .any :: .any :: .any :: .any :: .any :: .any :: .any :: .any :: .any :: .any :: .any :: [])
theorem rNodes_ok (σ : Heap) (L : List Int) : ACalls Try.prog 37 [.imm (L.map eI)] σ (fun y σ' => σ' = σ ∧ ∃ b : Bool, y = .sc (.bool b) ∧ (b = true ↔ L.length ≤ 16 ∧ ∀ v ∈ L, 0 ≤ v ∧ v < 16)) := by
  have del : (L.map eI).length = L.length := List.length_map ..
  refine ACalls.code hT Try.func37 rfl ?_
  simp only [Try.ntmps37, List.length_cons, List.length_nil, Nat.reduceSub, Nat.reduceAdd, List.replicate, List.cons_append, List.nil_append]
  by_cases h16 : 16 < L.length
  · have dc1 : decide (16 < (L.length : Int)) = true := decide_eq_true (by omega)
    repeat (first | (with_reducible first | refine AW.seq ?_ | refine AW.block ?_ | refine AW.skip ?_ | refine AW.ret ?_ | refine AW.exit ?_ | refine AW.reg hT ?_) | ((with_reducible refine AW.cond_true ?_ ?_); · rfl) | ((with_reducible refine AW.cond_false ?_ ?_); · rfl) | simp (maxSteps := 3000000) (maxDischargeDepth := 12) only [seval,push_cast,appendX,Try.results37,del,dc1])
    exact ⟨false, rfl, by simp; intro h; omega⟩
  have dc1 : decide (16 < (L.length : Int)) = false := decide_eq_false (by omega)
  repeat (first | (with_reducible first | refine AW.seq ?_ | refine AW.block ?_ | refine AW.skip ?_ | refine AW.ret ?_ | refine AW.exit ?_ | refine AW.reg hT ?_) | ((with_reducible refine AW.cond_true ?_ ?_); · rfl) | ((with_reducible refine AW.cond_false ?_ ?_); · rfl) | simp (maxSteps := 3000000) (maxDischargeDepth := 12) only [seval,push_cast,appendX,Try.results37,del,dc1])
  refine AW.loop (rnI L σ) (m := L.length + 1) ⟨0, rfl, Nat.zero_le _, by simp, rfl, by (simp only [push_cast, TellsL, tells_any, tells_refl])⟩ ?_
  rintro m ts σ3 ⟨i, rfl, hi, hv, rfl, hts⟩
  refine AW.told hts ?_
  clear hts
  by_cases hlt : i < L.length
  · have dci : decide ((i : Int) < (L.length : Int)) = true := decide_eq_true (by omega)
    have dci2 : ((i : Int) < (L.length : Int)) = True := by simp; omega
    have dci0 : ((0 : Int) ≤ (i : Int)) = True := by simp
    have dcw : IntKind.i64.wrap ((i : Int) + 1) = (i : Int) + 1 := wrap_i64 (by omega) (by omega)
    have dcel : (L.map eI)[i]? = some [.sc (.int .i64 L[i])] := by rw [List.getElem?_map, List.getElem?_eq_getElem hlt]; rfl
    repeat (first | (with_reducible first | refine AW.seq ?_ | refine AW.block ?_ | refine AW.skip ?_ | refine AW.ret ?_ | refine AW.exit ?_ | refine AW.reg hT ?_) | ((with_reducible refine AW.cond_true ?_ ?_); · rfl) | ((with_reducible refine AW.cond_false ?_ ?_); · rfl) | simp (maxSteps := 3000000) (maxDischargeDepth := 12) only [seval,push_cast,appendX,Try.results37,del,dc1,dci,dci2,dci0,dcw,dcel])
    refine AOpsL.call (first := []) (cap := []) hT rfl rfl rfl fn35 rfl (ACalls.mono (rNode_ok _ _) ?_)
    rintro y σ4 ⟨rfl, rfl⟩
    by_cases hn : 0 ≤ L[i] ∧ L[i] < 16
    · have dcn : decide (0 ≤ L[i] ∧ L[i] < 16) = true := decide_eq_true hn
      repeat (first | (with_reducible first | refine AW.seq ?_ | refine AW.block ?_ | refine AW.skip ?_ | refine AW.ret ?_ | refine AW.exit ?_ | refine AW.reg hT ?_) | ((with_reducible refine AW.cond_true ?_ ?_); · rfl) | ((with_reducible refine AW.cond_false ?_ ?_); · rfl) | simp (maxSteps := 3000000) (maxDischargeDepth := 12) only [seval,push_cast,appendX,Try.results37,del,dc1,dci,dci2,dci0,dcw,dcel,dcn])
      have hic : (((i + 1 : Nat)) : Int) = (i : Int) + 1 := by omega
      refine ⟨L.length + 1 - (i + 1), by omega, i + 1, rfl, hlt, ?_, rfl, by (simp only [push_cast, TellsL, tells_any, tells_refl, hic])⟩
      rw [List.take_succ_eq_append_getElem hlt]
      intro v hm
      rcases List.mem_append.1 hm with hm | hm
      · exact hv v hm
      · simp at hm; subst hm; exact hn
    · have dcn : decide (0 ≤ L[i] ∧ L[i] < 16) = false := decide_eq_false hn
      repeat (first | (with_reducible first | refine AW.seq ?_ | refine AW.block ?_ | refine AW.skip ?_ | refine AW.ret ?_ | refine AW.exit ?_ | refine AW.reg hT ?_) | ((with_reducible refine AW.cond_true ?_ ?_); · rfl) | ((with_reducible refine AW.cond_false ?_ ?_); · rfl) | simp (maxSteps := 3000000) (maxDischargeDepth := 12) only [seval,push_cast,appendX,Try.results37,del,dc1,dci,dci2,dci0,dcw,dcel,dcn])
      exact ⟨false, rfl, ⟨fun h => (by cases h), fun h => absurd (h.2 _ (List.getElem_mem hlt)) hn⟩⟩
  · have dci : decide ((i : Int) < (L.length : Int)) = false := decide_eq_false (by omega)
    repeat (first | (with_reducible first | refine AW.seq ?_ | refine AW.block ?_ | refine AW.skip ?_ | refine AW.ret ?_ | refine AW.exit ?_ | refine AW.reg hT ?_) | ((with_reducible refine AW.cond_true ?_ ?_); · rfl) | ((with_reducible refine AW.cond_false ?_ ?_); · rfl) | simp (maxSteps := 3000000) (maxDischargeDepth := 12) only [seval,push_cast,appendX,Try.results37,del,dc1,dci])
    have e : L.take i = L := List.take_of_length_le (by omega)
    rw [e] at hv
    exact ⟨true, rfl, ⟨fun _ => ⟨by omega, hv⟩, fun _ => rfl⟩⟩
theorem item_nil (x : Fs) : Tells (.agg (itC x (.sc (.slice none 0 0)))) (.agg (itC x (.imm (([] : List Int).map eI)))) := Tells.agg ⟨Tells.refl _, Tells.refl _, Tells.refl _, Tells.refl _, Tells.refl _, Tells.nil, Tells.refl _, Tells.refl _, Tells.refl _, Tells.refl _, Tells.refl _, Tells.refl _, trivial⟩
section
variable {x : Fs} {L : List Int}
theorem rshape_1 (σ : Heap) (dcc : x.cls = 1) : ACalls Try.prog 34 [.agg (itC x (.imm (L.map eI)))] σ (fun y σ' => y = .agg (itC { x with a := 0, b := 0, c := 0, cls := 0 } (.imm (L.map eI))) ∧ Ext [] σ σ') := by
  refine ACalls.code hT Try.func34 rfl ?_
  simp only [Try.ntmps34, List.length_cons, List.length_nil, Nat.reduceSub, Nat.reduceAdd, List.replicate, List.cons_append, List.nil_append]
  repeat (first | (with_reducible first | refine AW.seq ?_ | refine AW.block ?_ | refine AW.skip ?_ | refine AW.ret ?_ | refine AW.exit ?_ | refine AW.reg hT ?_) | ((with_reducible refine AW.cond_true ?_ ?_); · rfl) | ((with_reducible refine AW.cond_false ?_ ?_); · rfl) | simp (maxSteps := 3000000) (maxDischargeDepth := 12) only [seval,push_cast,appendX,Try.results34,itC,dcc])
  repeat (first | exact Ext.refl _ _ | assumption | refine Ext.push ?_ _ | ((refine Ext.set ?_ ?_ _); rotate_left; · (simp (maxSteps := 3000000) (maxDischargeDepth := 12) only [push_cast, appendX, Nat.reduceAdd, Nat.reduceEqDiff, Nat.reduceLT, Nat.reduceLeDiff, reduceIte, reduceCtorEq, dcc])) | ((refine Ext.then1 (by assumption) ?_ ?_); rotate_left; · (intro p hp _; first | assumption | exact List.mem_cons_of_mem _ hp | (cases hp; done) | (simp at hp; subst hp; simp))))
theorem rshape_3 (σ : Heap) (dcc : x.cls = 3) : ACalls Try.prog 34 [.agg (itC x (.imm (L.map eI)))] σ (fun y σ' => y = .agg (itC { x with a := 0, cls := 0 } (.imm (L.map eI))) ∧ Ext [] σ σ') := by
  refine ACalls.code hT Try.func34 rfl ?_
  simp only [Try.ntmps34, List.length_cons, List.length_nil, Nat.reduceSub, Nat.reduceAdd, List.replicate, List.cons_append, List.nil_append]
  repeat (first | (with_reducible first | refine AW.seq ?_ | refine AW.block ?_ | refine AW.skip ?_ | refine AW.ret ?_ | refine AW.exit ?_ | refine AW.reg hT ?_) | ((with_reducible refine AW.cond_true ?_ ?_); · rfl) | ((with_reducible refine AW.cond_false ?_ ?_); · rfl) | simp (maxSteps := 3000000) (maxDischargeDepth := 12) only [seval,push_cast,appendX,Try.results34,itC,dcc])
  repeat (first | exact Ext.refl _ _ | assumption | refine Ext.push ?_ _ | ((refine Ext.set ?_ ?_ _); rotate_left; · (simp (maxSteps := 3000000) (maxDischargeDepth := 12) only [push_cast, appendX, Nat.reduceAdd, Nat.reduceEqDiff, Nat.reduceLT, Nat.reduceLeDiff, reduceIte, reduceCtorEq, dcc])) | ((refine Ext.then1 (by assumption) ?_ ?_); rotate_left; · (intro p hp _; first | assumption | exact List.mem_cons_of_mem _ hp | (cases hp; done) | (simp at hp; subst hp; simp))))
theorem rshape_5 (σ : Heap) (dcc : x.cls = 5) : ACalls Try.prog 34 [.agg (itC x (.imm (L.map eI)))] σ (fun y σ' => y = .agg (itC { x with u := 0, cls := 0 } (.imm (L.map eI))) ∧ Ext [] σ σ') := by
  refine ACalls.code hT Try.func34 rfl ?_
  simp only [Try.ntmps34, List.length_cons, List.length_nil, Nat.reduceSub, Nat.reduceAdd, List.replicate, List.cons_append, List.nil_append]
  repeat (first | (with_reducible first | refine AW.seq ?_ | refine AW.block ?_ | refine AW.skip ?_ | refine AW.ret ?_ | refine AW.exit ?_ | refine AW.reg hT ?_) | ((with_reducible refine AW.cond_true ?_ ?_); · rfl) | ((with_reducible refine AW.cond_false ?_ ?_); · rfl) | simp (maxSteps := 3000000) (maxDischargeDepth := 12) only [seval,push_cast,appendX,Try.results34,itC,dcc])
  repeat (first | exact Ext.refl _ _ | assumption | refine Ext.push ?_ _ | ((refine Ext.set ?_ ?_ _); rotate_left; · (simp (maxSteps := 3000000) (maxDischargeDepth := 12) only [push_cast, appendX, Nat.reduceAdd, Nat.reduceEqDiff, Nat.reduceLT, Nat.reduceLeDiff, reduceIte, reduceCtorEq, dcc])) | ((refine Ext.then1 (by assumption) ?_ ?_); rotate_left; · (intro p hp _; first | assumption | exact List.mem_cons_of_mem _ hp | (cases hp; done) | (simp at hp; subst hp; simp))))
theorem rshape_6 (σ : Heap) (dcc : x.cls = 6) : ACalls Try.prog 34 [.agg (itC x (.imm (L.map eI)))] σ (fun y σ' => y = .agg (itC { x with a := 0, b := 0, c := 0, cls := 0 } (.imm (L.map eI))) ∧ Ext [] σ σ') := by
  refine ACalls.code hT Try.func34 rfl ?_
  simp only [Try.ntmps34, List.length_cons, List.length_nil, Nat.reduceSub, Nat.reduceAdd, List.replicate, List.cons_append, List.nil_append]
  repeat (first | (with_reducible first | refine AW.seq ?_ | refine AW.block ?_ | refine AW.skip ?_ | refine AW.ret ?_ | refine AW.exit ?_ | refine AW.reg hT ?_) | ((with_reducible refine AW.cond_true ?_ ?_); · rfl) | ((with_reducible refine AW.cond_false ?_ ?_); · rfl) | simp (maxSteps := 3000000) (maxDischargeDepth := 12) only [seval,push_cast,appendX,Try.results34,itC,dcc])
  repeat (first | exact Ext.refl _ _ | assumption | refine Ext.push ?_ _ | ((refine Ext.set ?_ ?_ _); rotate_left; · (simp (maxSteps := 3000000) (maxDischargeDepth := 12) only [push_cast, appendX, Nat.reduceAdd, Nat.reduceEqDiff, Nat.reduceLT, Nat.reduceLeDiff, reduceIte, reduceCtorEq, dcc])) | ((refine Ext.then1 (by assumption) ?_ ?_); rotate_left; · (intro p hp _; first | assumption | exact List.mem_cons_of_mem _ hp | (cases hp; done) | (simp at hp; subst hp; simp))))
theorem rshape_8 (σ : Heap) (dcc : x.cls = 8) : ACalls Try.prog 34 [.agg (itC x (.imm (L.map eI)))] σ (fun y σ' => y = .agg (itC { x with cls := 0 } (.imm (L.map eI))) ∧ Ext [] σ σ') := by
  refine ACalls.code hT Try.func34 rfl ?_
  simp only [Try.ntmps34, List.length_cons, List.length_nil, Nat.reduceSub, Nat.reduceAdd, List.replicate, List.cons_append, List.nil_append]
  repeat (first | (with_reducible first | refine AW.seq ?_ | refine AW.block ?_ | refine AW.skip ?_ | refine AW.ret ?_ | refine AW.exit ?_ | refine AW.reg hT ?_) | ((with_reducible refine AW.cond_true ?_ ?_); · rfl) | ((with_reducible refine AW.cond_false ?_ ?_); · rfl) | simp (maxSteps := 3000000) (maxDischargeDepth := 12) only [seval,push_cast,appendX,Try.results34,itC,dcc])
  repeat (first | exact Ext.refl _ _ | assumption | refine Ext.push ?_ _ | ((refine Ext.set ?_ ?_ _); rotate_left; · (simp (maxSteps := 3000000) (maxDischargeDepth := 12) only [push_cast, appendX, Nat.reduceAdd, Nat.reduceEqDiff, Nat.reduceLT, Nat.reduceLeDiff, reduceIte, reduceCtorEq, dcc])) | ((refine Ext.then1 (by assumption) ?_ ?_); rotate_left; · (intro p hp _; first | assumption | exact List.mem_cons_of_mem _ hp | (cases hp; done) | (simp at hp; subst hp; simp))))
theorem rshape_9 (σ : Heap) (dcc : x.cls = 9) : ACalls Try.prog 34 [.agg (itC x (.imm (L.map eI)))] σ (fun y σ' => y = .agg (itC { x with u := 0, cls := 0 } (.imm (L.map eI))) ∧ Ext [] σ σ') := by
  refine ACalls.code hT Try.func34 rfl ?_
  simp only [Try.ntmps34, List.length_cons, List.length_nil, Nat.reduceSub, Nat.reduceAdd, List.replicate, List.cons_append, List.nil_append]
  repeat (first | (with_reducible first | refine AW.seq ?_ | refine AW.block ?_ | refine AW.skip ?_ | refine AW.ret ?_ | refine AW.exit ?_ | refine AW.reg hT ?_) | ((with_reducible refine AW.cond_true ?_ ?_); · rfl) | ((with_reducible refine AW.cond_false ?_ ?_); · rfl) | simp (maxSteps := 3000000) (maxDischargeDepth := 12) only [seval,push_cast,appendX,Try.results34,itC,dcc])
  repeat (first | exact Ext.refl _ _ | assumption | refine Ext.push ?_ _ | ((refine Ext.set ?_ ?_ _); rotate_left; · (simp (maxSteps := 3000000) (maxDischargeDepth := 12) only [push_cast, appendX, Nat.reduceAdd, Nat.reduceEqDiff, Nat.reduceLT, Nat.reduceLeDiff, reduceIte, reduceCtorEq, dcc])) | ((refine Ext.then1 (by assumption) ?_ ?_); rotate_left; · (intro p hp _; first | assumption | exact List.mem_cons_of_mem _ hp | (cases hp; done) | (simp at hp; subst hp; simp))))
theorem rshape_12 (σ : Heap) (dcc : x.cls = 12) : ACalls Try.prog 34 [.agg (itC x (.imm (L.map eI)))] σ (fun y σ' => y = .agg (itC { x with u := 0, cls := 0 } (.imm (L.map eI))) ∧ Ext [] σ σ') := by
  refine ACalls.code hT Try.func34 rfl ?_
  simp only [Try.ntmps34, List.length_cons, List.length_nil, Nat.reduceSub, Nat.reduceAdd, List.replicate, List.cons_append, List.nil_append]
  repeat (first | (with_reducible first | refine AW.seq ?_ | refine AW.block ?_ | refine AW.skip ?_ | refine AW.ret ?_ | refine AW.exit ?_ | refine AW.reg hT ?_) | ((with_reducible refine AW.cond_true ?_ ?_); · rfl) | ((with_reducible refine AW.cond_false ?_ ?_); · rfl) | simp (maxSteps := 3000000) (maxDischargeDepth := 12) only [seval,push_cast,appendX,Try.results34,itC,dcc])
  repeat (first | exact Ext.refl _ _ | assumption | refine Ext.push ?_ _ | ((refine Ext.set ?_ ?_ _); rotate_left; · (simp (maxSteps := 3000000) (maxDischargeDepth := 12) only [push_cast, appendX, Nat.reduceAdd, Nat.reduceEqDiff, Nat.reduceLT, Nat.reduceLeDiff, reduceIte, reduceCtorEq, dcc])) | ((refine Ext.then1 (by assumption) ?_ ?_); rotate_left; · (intro p hp _; first | assumption | exact List.mem_cons_of_mem _ hp | (cases hp; done) | (simp at hp; subst hp; simp))))
theorem rshape_10 (σ : Heap) (dcc : x.cls = 10) : ACalls Try.prog 34 [.agg (itC x (.imm (L.map eI)))] σ (fun y σ' => y = .agg (itC { x with a := 0, b := 0, cls := 0 } (.imm (L.map eI))) ∧ Ext [] σ σ') := by
  refine ACalls.code hT Try.func34 rfl ?_
  simp only [Try.ntmps34, List.length_cons, List.length_nil, Nat.reduceSub, Nat.reduceAdd, List.replicate, List.cons_append, List.nil_append]
  repeat (first | (with_reducible first | refine AW.seq ?_ | refine AW.block ?_ | refine AW.skip ?_ | refine AW.ret ?_ | refine AW.exit ?_ | refine AW.reg hT ?_) | ((with_reducible refine AW.cond_true ?_ ?_); · rfl) | ((with_reducible refine AW.cond_false ?_ ?_); · rfl) | simp (maxSteps := 3000000) (maxDischargeDepth := 12) only [seval,push_cast,appendX,Try.results34,itC,dcc])
  repeat (first | exact Ext.refl _ _ | assumption | refine Ext.push ?_ _ | ((refine Ext.set ?_ ?_ _); rotate_left; · (simp (maxSteps := 3000000) (maxDischargeDepth := 12) only [push_cast, appendX, Nat.reduceAdd, Nat.reduceEqDiff, Nat.reduceLT, Nat.reduceLeDiff, reduceIte, reduceCtorEq, dcc])) | ((refine Ext.then1 (by assumption) ?_ ?_); rotate_left; · (intro p hp _; first | assumption | exact List.mem_cons_of_mem _ hp | (cases hp; done) | (simp at hp; subst hp; simp))))
theorem rshape_11 (σ : Heap) (dcc : x.cls = 11) : ACalls Try.prog 34 [.agg (itC x (.imm (L.map eI)))] σ (fun y σ' => y = .agg (itC { x with a := 0, b := 0, cls := 0 } (.imm (L.map eI))) ∧ Ext [] σ σ') := by
  refine ACalls.code hT Try.func34 rfl ?_
  simp only [Try.ntmps34, List.length_cons, List.length_nil, Nat.reduceSub, Nat.reduceAdd, List.replicate, List.cons_append, List.nil_append]
  repeat (first | (with_reducible first | refine AW.seq ?_ | refine AW.block ?_ | refine AW.skip ?_ | refine AW.ret ?_ | refine AW.exit ?_ | refine AW.reg hT ?_) | ((with_reducible refine AW.cond_true ?_ ?_); · rfl) | ((with_reducible refine AW.cond_false ?_ ?_); · rfl) | simp (maxSteps := 3000000) (maxDischargeDepth := 12) only [seval,push_cast,appendX,Try.results34,itC,dcc])
  repeat (first | exact Ext.refl _ _ | assumption | refine Ext.push ?_ _ | ((refine Ext.set ?_ ?_ _); rotate_left; · (simp (maxSteps := 3000000) (maxDischargeDepth := 12) only [push_cast, appendX, Nat.reduceAdd, Nat.reduceEqDiff, Nat.reduceLT, Nat.reduceLeDiff, reduceIte, reduceCtorEq, dcc])) | ((refine Ext.then1 (by assumption) ?_ ?_); rotate_left; · (intro p hp _; first | assumption | exact List.mem_cons_of_mem _ hp | (cases hp; done) | (simp at hp; subst hp; simp))))
theorem rshape_16 (σ : Heap) (dcc : x.cls = 16) : ACalls Try.prog 34 [.agg (itC x (.imm (L.map eI)))] σ (fun y σ' => y = .agg (itC { x with a := 0, cls := 0 } (.imm (L.map eI))) ∧ Ext [] σ σ') := by
  refine ACalls.code hT Try.func34 rfl ?_
  simp only [Try.ntmps34, List.length_cons, List.length_nil, Nat.reduceSub, Nat.reduceAdd, List.replicate, List.cons_append, List.nil_append]
  repeat (first | (with_reducible first | refine AW.seq ?_ | refine AW.block ?_ | refine AW.skip ?_ | refine AW.ret ?_ | refine AW.exit ?_ | refine AW.reg hT ?_) | ((with_reducible refine AW.cond_true ?_ ?_); · rfl) | ((with_reducible refine AW.cond_false ?_ ?_); · rfl) | simp (maxSteps := 3000000) (maxDischargeDepth := 12) only [seval,push_cast,appendX,Try.results34,itC,dcc])
  repeat (first | exact Ext.refl _ _ | assumption | refine Ext.push ?_ _ | ((refine Ext.set ?_ ?_ _); rotate_left; · (simp (maxSteps := 3000000) (maxDischargeDepth := 12) only [push_cast, appendX, Nat.reduceAdd, Nat.reduceEqDiff, Nat.reduceLT, Nat.reduceLeDiff, reduceIte, reduceCtorEq, dcc])) | ((refine Ext.then1 (by assumption) ?_ ?_); rotate_left; · (intro p hp _; first | assumption | exact List.mem_cons_of_mem _ hp | (cases hp; done) | (simp at hp; subst hp; simp))))
theorem rshape_19 (σ : Heap) (dcc : x.cls = 19) : ACalls Try.prog 34 [.agg (itC x (.imm (L.map eI)))] σ (fun y σ' => y = .agg (itC { x with a := 0, cls := 0 } (.imm (L.map eI))) ∧ Ext [] σ σ') := by
  refine ACalls.code hT Try.func34 rfl ?_
  simp only [Try.ntmps34, List.length_cons, List.length_nil, Nat.reduceSub, Nat.reduceAdd, List.replicate, List.cons_append, List.nil_append]
  repeat (first | (with_reducible first | refine AW.seq ?_ | refine AW.block ?_ | refine AW.skip ?_ | refine AW.ret ?_ | refine AW.exit ?_ | refine AW.reg hT ?_) | ((with_reducible refine AW.cond_true ?_ ?_); · rfl) | ((with_reducible refine AW.cond_false ?_ ?_); · rfl) | simp (maxSteps := 3000000) (maxDischargeDepth := 12) only [seval,push_cast,appendX,Try.results34,itC,dcc])
  repeat (first | exact Ext.refl _ _ | assumption | refine Ext.push ?_ _ | ((refine Ext.set ?_ ?_ _); rotate_left; · (simp (maxSteps := 3000000) (maxDischargeDepth := 12) only [push_cast, appendX, Nat.reduceAdd, Nat.reduceEqDiff, Nat.reduceLT, Nat.reduceLeDiff, reduceIte, reduceCtorEq, dcc])) | ((refine Ext.then1 (by assumption) ?_ ?_); rotate_left; · (intro p hp _; first | assumption | exact List.mem_cons_of_mem _ hp | (cases hp; done) | (simp at hp; subst hp; simp))))
theorem rshape_20 (σ : Heap) (dcc : x.cls = 20) : ACalls Try.prog 34 [.agg (itC x (.imm (L.map eI)))] σ (fun y σ' => y = .agg (itC { x with cls := 0 } (.imm (([] : List Int).map eI))) ∧ Ext [] σ σ') := by
  refine ACalls.tells ?_
  refine ACalls.code hT Try.func34 rfl ?_
  simp only [Try.ntmps34, List.length_cons, List.length_nil, Nat.reduceSub, Nat.reduceAdd, List.replicate, List.cons_append, List.nil_append]
  repeat (first | (with_reducible first | refine AW.seq ?_ | refine AW.block ?_ | refine AW.skip ?_ | refine AW.ret ?_ | refine AW.exit ?_ | refine AW.reg hT ?_) | ((with_reducible refine AW.cond_true ?_ ?_); · rfl) | ((with_reducible refine AW.cond_false ?_ ?_); · rfl) | simp (maxSteps := 3000000) (maxDischargeDepth := 12) only [seval,push_cast,appendX,Try.results34,itC,dcc])
  exact ⟨_, item_nil { x with cls := 0 }, rfl, by repeat (first | exact Ext.refl _ _ | assumption | refine Ext.push ?_ _ | ((refine Ext.set ?_ ?_ _); rotate_left; · (simp (maxSteps := 3000000) (maxDischargeDepth := 12) only [push_cast, appendX, Nat.reduceAdd, Nat.reduceEqDiff, Nat.reduceLT, Nat.reduceLeDiff, reduceIte, reduceCtorEq, dcc])) | ((refine Ext.then1 (by assumption) ?_ ?_); rotate_left; · (intro p hp _; first | assumption | exact List.mem_cons_of_mem _ hp | (cases hp; done) | (simp at hp; subst hp; simp))))⟩
theorem rshape_21 (σ : Heap) (dcc : x.cls = 21) : ACalls Try.prog 34 [.agg (itC x (.imm (L.map eI)))] σ (fun y σ' => y = .agg (itC { x with cls := 0 } (.imm (([] : List Int).map eI))) ∧ Ext [] σ σ') := by
  refine ACalls.tells ?_
  refine ACalls.code hT Try.func34 rfl ?_
  simp only [Try.ntmps34, List.length_cons, List.length_nil, Nat.reduceSub, Nat.reduceAdd, List.replicate, List.cons_append, List.nil_append]
  repeat (first | (with_reducible first | refine AW.seq ?_ | refine AW.block ?_ | refine AW.skip ?_ | refine AW.ret ?_ | refine AW.exit ?_ | refine AW.reg hT ?_) | ((with_reducible refine AW.cond_true ?_ ?_); · rfl) | ((with_reducible refine AW.cond_false ?_ ?_); · rfl) | simp (maxSteps := 3000000) (maxDischargeDepth := 12) only [seval,push_cast,appendX,Try.results34,itC,dcc])
  exact ⟨_, item_nil { x with cls := 0 }, rfl, by repeat (first | exact Ext.refl _ _ | assumption | refine Ext.push ?_ _ | ((refine Ext.set ?_ ?_ _); rotate_left; · (simp (maxSteps := 3000000) (maxDischargeDepth := 12) only [push_cast, appendX, Nat.reduceAdd, Nat.reduceEqDiff, Nat.reduceLT, Nat.reduceLeDiff, reduceIte, reduceCtorEq, dcc])) | ((refine Ext.then1 (by assumption) ?_ ?_); rotate_left; · (intro p hp _; first | assumption | exact List.mem_cons_of_mem _ hp | (cases hp; done) | (simp at hp; subst hp; simp))))⟩
theorem rshape_23 (σ : Heap) (dcc : x.cls = 23) : ACalls Try.prog 34 [.agg (itC x (.imm (L.map eI)))] σ (fun y σ' => y = .agg (itC { x with u := 0, cls := 0 } (.imm (L.map eI))) ∧ Ext [] σ σ') := by
  refine ACalls.code hT Try.func34 rfl ?_
  simp only [Try.ntmps34, List.length_cons, List.length_nil, Nat.reduceSub, Nat.reduceAdd, List.replicate, List.cons_append, List.nil_append]
  repeat (first | (with_reducible first | refine AW.seq ?_ | refine AW.block ?_ | refine AW.skip ?_ | refine AW.ret ?_ | refine AW.exit ?_ | refine AW.reg hT ?_) | ((with_reducible refine AW.cond_true ?_ ?_); · rfl) | ((with_reducible refine AW.cond_false ?_ ?_); · rfl) | simp (maxSteps := 3000000) (maxDischargeDepth := 12) only [seval,push_cast,appendX,Try.results34,itC,dcc])
  repeat (first | exact Ext.refl _ _ | assumption | refine Ext.push ?_ _ | ((refine Ext.set ?_ ?_ _); rotate_left; · (simp (maxSteps := 3000000) (maxDischargeDepth := 12) only [push_cast, appendX, Nat.reduceAdd, Nat.reduceEqDiff, Nat.reduceLT, Nat.reduceLeDiff, reduceIte, reduceCtorEq, dcc])) | ((refine Ext.then1 (by assumption) ?_ ?_); rotate_left; · (intro p hp _; first | assumption | exact List.mem_cons_of_mem _ hp | (cases hp; done) | (simp at hp; subst hp; simp))))
theorem rshape_207 (σ : Heap) (dcc : x.cls = 207) : ACalls Try.prog 34 [.agg (itC x (.imm (L.map eI)))] σ (fun y σ' => y = .agg (itC { x with bw := 0, su := 0, ho := 0, an := 0, al := 0, no := 0, cls := 0 } (.imm (L.map eI))) ∧ Ext [] σ σ') := by
  refine ACalls.code hT Try.func34 rfl ?_
  simp only [Try.ntmps34, List.length_cons, List.length_nil, Nat.reduceSub, Nat.reduceAdd, List.replicate, List.cons_append, List.nil_append]
  repeat (first | (with_reducible first | refine AW.seq ?_ | refine AW.block ?_ | refine AW.skip ?_ | refine AW.ret ?_ | refine AW.exit ?_ | refine AW.reg hT ?_) | ((with_reducible refine AW.cond_true ?_ ?_); · rfl) | ((with_reducible refine AW.cond_false ?_ ?_); · rfl) | simp (maxSteps := 3000000) (maxDischargeDepth := 12) only [seval,push_cast,appendX,Try.results34,itC,dcc])
  repeat (first | exact Ext.refl _ _ | assumption | refine Ext.push ?_ _ | ((refine Ext.set ?_ ?_ _); rotate_left; · (simp (maxSteps := 3000000) (maxDischargeDepth := 12) only [push_cast, appendX, Nat.reduceAdd, Nat.reduceEqDiff, Nat.reduceLT, Nat.reduceLeDiff, reduceIte, reduceCtorEq, dcc])) | ((refine Ext.then1 (by assumption) ?_ ?_); rotate_left; · (intro p hp _; first | assumption | exact List.mem_cons_of_mem _ hp | (cases hp; done) | (simp at hp; subst hp; simp))))
theorem rshape_no (σ : Heap) (hcc : x.cls ≠ 1 ∧ x.cls ≠ 3 ∧ x.cls ≠ 5 ∧ x.cls ≠ 6 ∧ x.cls ≠ 8 ∧ x.cls ≠ 9 ∧ x.cls ≠ 12 ∧ x.cls ≠ 10 ∧ x.cls ≠ 11 ∧ x.cls ≠ 16 ∧ x.cls ≠ 19 ∧ x.cls ≠ 20 ∧ x.cls ≠ 21 ∧ x.cls ≠ 23 ∧ x.cls ≠ 207) : ACalls Try.prog 34 [.agg (itC x (.imm (L.map eI)))] σ (fun y σ' => y = .agg (itC { x with cls := 0 } (.imm (L.map eI))) ∧ Ext [] σ σ') := by
  obtain ⟨hc1, hc3, hc5, hc6, hc8, hc9, hc12, hc10, hc11, hc16, hc19, hc20, hc21, hc23, hc207⟩ := hcc
  have dcq1 : (x.cls == 1) = false := by simpa using hc1
  have dcq3 : (x.cls == 3) = false := by simpa using hc3
  have dcq5 : (x.cls == 5) = false := by simpa using hc5
  have dcq6 : (x.cls == 6) = false := by simpa using hc6
  have dcq8 : (x.cls == 8) = false := by simpa using hc8
  have dcq9 : (x.cls == 9) = false := by simpa using hc9
  have dcq12 : (x.cls == 12) = false := by simpa using hc12
  have dcq10 : (x.cls == 10) = false := by simpa using hc10
  have dcq11 : (x.cls == 11) = false := by simpa using hc11
  have dcq16 : (x.cls == 16) = false := by simpa using hc16
  have dcq19 : (x.cls == 19) = false := by simpa using hc19
  have dcq20 : (x.cls == 20) = false := by simpa using hc20
  have dcq21 : (x.cls == 21) = false := by simpa using hc21
  have dcq23 : (x.cls == 23) = false := by simpa using hc23
  have dcq207 : (x.cls == 207) = false := by simpa using hc207
  refine ACalls.code hT Try.func34 rfl ?_
  simp only [Try.ntmps34, List.length_cons, List.length_nil, Nat.reduceSub, Nat.reduceAdd, List.replicate, List.cons_append, List.nil_append]
  repeat (first | (with_reducible first | refine AW.seq ?_ | refine AW.block ?_ | refine AW.skip ?_ | refine AW.ret ?_ | refine AW.exit ?_ | refine AW.reg hT ?_) | ((with_reducible refine AW.cond_true ?_ ?_); · rfl) | ((with_reducible refine AW.cond_false ?_ ?_); · rfl) | simp (maxSteps := 3000000) (maxDischargeDepth := 12) only [seval,push_cast,appendX,Try.results34,itC,dcq1,dcq3,dcq5,dcq6,dcq8,dcq9,dcq12,dcq10,dcq11,dcq16,dcq19,dcq20,dcq21,dcq23,dcq207])
  repeat (first | exact Ext.refl _ _ | assumption | refine Ext.push ?_ _ | ((refine Ext.set ?_ ?_ _); rotate_left; · (simp (maxSteps := 3000000) (maxDischargeDepth := 12) only [push_cast, appendX, Nat.reduceAdd, Nat.reduceEqDiff, Nat.reduceLT, Nat.reduceLeDiff, reduceIte, reduceCtorEq, dcq1, dcq3, dcq5, dcq6, dcq8, dcq9, dcq12, dcq10, dcq11, dcq16, dcq19, dcq20, dcq21, dcq23, dcq207])) | ((refine Ext.then1 (by assumption) ?_ ?_); rotate_left; · (intro p hp _; first | assumption | exact List.mem_cons_of_mem _ hp | (cases hp; done) | (simp at hp; subst hp; simp))))
theorem may_1 (hcc : x.cls = 1) (hw : x.Wf) : mayI x L ↔ ({ x with a := 0, b := 0, c := 0, cls := 0 } = zF 0 ∧ L = []) ∧ (0 ≤ x.a ∧ x.a < 16) ∧ (0 ≤ x.b ∧ x.b ≤ 65535) ∧ (0 ≤ x.c ∧ x.c < 16) := by
  have h1 : known x.cls := by rw [hcc]; simp [known]
  have h2 : ¬ isL x.cls := known_notL h1
  obtain ⟨hwc, hwa, hwb, hwcc, hwu, hwbw, hwsu, hwho, hwan, hwal, hwno⟩ := hw
  simp only [mayI, h1, h2, false_and, false_or, true_and, preB, if_true]
  rw [Fs.ext_iff', forall_isF, hcc]
  simp [zF, stepsOf, flds, Stp.fld, okS, Fs.get]
  constructor
  · intro h
    refine ⟨?_, ?_⟩ <;> (first | omega | (simp [h]; done) | (simp [h]; omega))
  · intro h
    refine ⟨?_, ?_⟩ <;> (first | omega | (simp [h]; done) | (simp [h]; omega))
theorem may_3 (hcc : x.cls = 3) (hw : x.Wf) : mayI x L ↔ ({ x with a := 0, cls := 0 } = zF 0 ∧ L = []) ∧ (0 ≤ x.a ∧ x.a < 16) := by
  have h1 : known x.cls := by rw [hcc]; simp [known]
  have h2 : ¬ isL x.cls := known_notL h1
  obtain ⟨hwc, hwa, hwb, hwcc, hwu, hwbw, hwsu, hwho, hwan, hwal, hwno⟩ := hw
  simp only [mayI, h1, h2, false_and, false_or, true_and, preB, if_true]
  rw [Fs.ext_iff', forall_isF, hcc]
  simp [zF, stepsOf, flds, Stp.fld, okS, Fs.get]
  constructor
  · intro h
    refine ⟨?_, ?_⟩ <;> (first | omega | (simp [h]; done) | (simp [h]; omega))
  · intro h
    refine ⟨?_, ?_⟩ <;> (first | omega | (simp [h]; done) | (simp [h]; omega))
theorem may_5 (hcc : x.cls = 5) (hw : x.Wf) : mayI x L ↔ ({ x with u := 0, cls := 0 } = zF 0 ∧ L = []) ∧ (x.u < 4294967296) := by
  have h1 : known x.cls := by rw [hcc]; simp [known]
  have h2 : ¬ isL x.cls := known_notL h1
  obtain ⟨hwc, hwa, hwb, hwcc, hwu, hwbw, hwsu, hwho, hwan, hwal, hwno⟩ := hw
  simp only [mayI, h1, h2, false_and, false_or, true_and, preB, if_true]
  rw [Fs.ext_iff', forall_isF, hcc]
  simp [zF, stepsOf, flds, Stp.fld, okS, Fs.get]
  constructor
  · intro h
    refine ⟨?_, ?_⟩ <;> (first | omega | (simp [h]; done) | (simp [h]; omega))
  · intro h
    refine ⟨?_, ?_⟩ <;> (first | omega | (simp [h]; done) | (simp [h]; omega))
theorem may_6 (hcc : x.cls = 6) (hw : x.Wf) : mayI x L ↔ ({ x with a := 0, b := 0, c := 0, cls := 0 } = zF 0 ∧ L = []) ∧ (0 ≤ x.a ∧ x.a < 16) ∧ (0 ≤ x.b) ∧ (x.b ≤ 255) ∧ (0 ≤ x.c ∧ x.c ≤ 65535) := by
  have h1 : known x.cls := by rw [hcc]; simp [known]
  have h2 : ¬ isL x.cls := known_notL h1
  obtain ⟨hwc, hwa, hwb, hwcc, hwu, hwbw, hwsu, hwho, hwan, hwal, hwno⟩ := hw
  simp only [mayI, h1, h2, false_and, false_or, true_and, preB, if_true]
  rw [Fs.ext_iff', forall_isF, hcc]
  simp [zF, stepsOf, flds, Stp.fld, okS, Fs.get]
  constructor
  · intro h
    refine ⟨?_, ?_⟩ <;> (first | omega | (simp [h]; done) | (simp [h]; omega))
  · intro h
    refine ⟨?_, ?_⟩ <;> (first | omega | (simp [h]; done) | (simp [h]; omega))
theorem may_8 (hcc : x.cls = 8) (hw : x.Wf) : mayI x L ↔ ({ x with cls := 0 } = zF 0 ∧ L = []) := by
  have h1 : known x.cls := by rw [hcc]; simp [known]
  have h2 : ¬ isL x.cls := known_notL h1
  obtain ⟨hwc, hwa, hwb, hwcc, hwu, hwbw, hwsu, hwho, hwan, hwal, hwno⟩ := hw
  simp only [mayI, h1, h2, false_and, false_or, true_and, preB, if_true]
  rw [Fs.ext_iff', forall_isF, hcc]
  simp [zF, stepsOf, flds, Stp.fld, okS, Fs.get]
  constructor
  · intro h
    refine ⟨?_, ?_⟩ <;> (first | omega | (simp [h]; done) | (simp [h]; omega))
  · intro h
    refine ⟨?_, ?_⟩ <;> (first | omega | (simp [h]; done) | (simp [h]; omega))
theorem may_9 (hcc : x.cls = 9) (hw : x.Wf) : mayI x L ↔ ({ x with u := 0, cls := 0 } = zF 0 ∧ L = []) := by
  have h1 : known x.cls := by rw [hcc]; simp [known]
  have h2 : ¬ isL x.cls := known_notL h1
  obtain ⟨hwc, hwa, hwb, hwcc, hwu, hwbw, hwsu, hwho, hwan, hwal, hwno⟩ := hw
  simp only [mayI, h1, h2, false_and, false_or, true_and, preB, if_true]
  rw [Fs.ext_iff', forall_isF, hcc]
  simp [zF, stepsOf, flds, Stp.fld, okS, Fs.get]
  constructor
  · intro h
    refine ⟨?_, ?_⟩ <;> (first | omega | (simp [h]; done) | (simp [h]; omega))
  · intro h
    refine ⟨?_, ?_⟩ <;> (first | omega | (simp [h]; done) | (simp [h]; omega))
theorem may_12 (hcc : x.cls = 12) (hw : x.Wf) : mayI x L ↔ ({ x with u := 0, cls := 0 } = zF 0 ∧ L = []) := by
  have h1 : known x.cls := by rw [hcc]; simp [known]
  have h2 : ¬ isL x.cls := known_notL h1
  obtain ⟨hwc, hwa, hwb, hwcc, hwu, hwbw, hwsu, hwho, hwan, hwal, hwno⟩ := hw
  simp only [mayI, h1, h2, false_and, false_or, true_and, preB, if_true]
  rw [Fs.ext_iff', forall_isF, hcc]
  simp [zF, stepsOf, flds, Stp.fld, okS, Fs.get]
  constructor
  · intro h
    refine ⟨?_, ?_⟩ <;> (first | omega | (simp [h]; done) | (simp [h]; omega))
  · intro h
    refine ⟨?_, ?_⟩ <;> (first | omega | (simp [h]; done) | (simp [h]; omega))
theorem may_10 (hcc : x.cls = 10) (hw : x.Wf) : mayI x L ↔ ({ x with a := 0, b := 0, cls := 0 } = zF 0 ∧ L = []) ∧ (0 ≤ x.a ∧ x.a < 16) ∧ (0 ≤ x.b ∧ x.b ≤ 65535) := by
  have h1 : known x.cls := by rw [hcc]; simp [known]
  have h2 : ¬ isL x.cls := known_notL h1
  obtain ⟨hwc, hwa, hwb, hwcc, hwu, hwbw, hwsu, hwho, hwan, hwal, hwno⟩ := hw
  simp only [mayI, h1, h2, false_and, false_or, true_and, preB, if_true]
  rw [Fs.ext_iff', forall_isF, hcc]
  simp [zF, stepsOf, flds, Stp.fld, okS, Fs.get]
  constructor
  · intro h
    refine ⟨?_, ?_⟩ <;> (first | omega | (simp [h]; done) | (simp [h]; omega))
  · intro h
    refine ⟨?_, ?_⟩ <;> (first | omega | (simp [h]; done) | (simp [h]; omega))
theorem may_11 (hcc : x.cls = 11) (hw : x.Wf) : mayI x L ↔ ({ x with a := 0, b := 0, cls := 0 } = zF 0 ∧ L = []) ∧ (0 ≤ x.a ∧ x.a < 16) ∧ (0 ≤ x.b ∧ x.b ≤ 65535) := by
  have h1 : known x.cls := by rw [hcc]; simp [known]
  have h2 : ¬ isL x.cls := known_notL h1
  obtain ⟨hwc, hwa, hwb, hwcc, hwu, hwbw, hwsu, hwho, hwan, hwal, hwno⟩ := hw
  simp only [mayI, h1, h2, false_and, false_or, true_and, preB, if_true]
  rw [Fs.ext_iff', forall_isF, hcc]
  simp [zF, stepsOf, flds, Stp.fld, okS, Fs.get]
  constructor
  · intro h
    refine ⟨?_, ?_⟩ <;> (first | omega | (simp [h]; done) | (simp [h]; omega))
  · intro h
    refine ⟨?_, ?_⟩ <;> (first | omega | (simp [h]; done) | (simp [h]; omega))
theorem may_16 (hcc : x.cls = 16) (hw : x.Wf) : mayI x L ↔ ({ x with a := 0, cls := 0 } = zF 0 ∧ L = []) ∧ (0 ≤ x.a) ∧ (x.a ≤ 1048575) := by
  have h1 : known x.cls := by rw [hcc]; simp [known]
  have h2 : ¬ isL x.cls := known_notL h1
  obtain ⟨hwc, hwa, hwb, hwcc, hwu, hwbw, hwsu, hwho, hwan, hwal, hwno⟩ := hw
  simp only [mayI, h1, h2, false_and, false_or, true_and, preB, if_true]
  rw [Fs.ext_iff', forall_isF, hcc]
  simp [zF, stepsOf, flds, Stp.fld, okS, Fs.get]
  constructor
  · intro h
    refine ⟨?_, ?_⟩ <;> (first | omega | (simp [h]; done) | (simp [h]; omega))
  · intro h
    refine ⟨?_, ?_⟩ <;> (first | omega | (simp [h]; done) | (simp [h]; omega))
theorem may_19 (hcc : x.cls = 19) (hw : x.Wf) : mayI x L ↔ ({ x with a := 0, cls := 0 } = zF 0 ∧ L = []) ∧ (0 ≤ x.a ∧ x.a ≤ 65535) := by
  have h1 : known x.cls := by rw [hcc]; simp [known]
  have h2 : ¬ isL x.cls := known_notL h1
  obtain ⟨hwc, hwa, hwb, hwcc, hwu, hwbw, hwsu, hwho, hwan, hwal, hwno⟩ := hw
  simp only [mayI, h1, h2, false_and, false_or, true_and, preB, if_true]
  rw [Fs.ext_iff', forall_isF, hcc]
  simp [zF, stepsOf, flds, Stp.fld, okS, Fs.get]
  constructor
  · intro h
    refine ⟨?_, ?_⟩ <;> (first | omega | (simp [h]; done) | (simp [h]; omega))
  · intro h
    refine ⟨?_, ?_⟩ <;> (first | omega | (simp [h]; done) | (simp [h]; omega))
theorem may_20 (hcc : x.cls = 20) (hw : x.Wf) : mayI x L ↔ ({ x with cls := 0 } = zF 0 ∧ ([] : List Int) = []) ∧ (L.length ≤ 16 ∧ ∀ v ∈ L, 0 ≤ v ∧ v < 16) := by
  have h1 : isL x.cls := by rw [hcc]; simp [isL]
  have h2 : ¬ known x.cls := fun h => known_notL h h1
  simp only [mayI, h1, h2, false_and, or_false, true_and, and_true]
  rw [Fs.ext_iff', Fs.ext_iff', hcc]
  simp [zF]
theorem may_21 (hcc : x.cls = 21) (hw : x.Wf) : mayI x L ↔ ({ x with cls := 0 } = zF 0 ∧ ([] : List Int) = []) ∧ (L.length ≤ 16 ∧ ∀ v ∈ L, 0 ≤ v ∧ v < 16) := by
  have h1 : isL x.cls := by rw [hcc]; simp [isL]
  have h2 : ¬ known x.cls := fun h => known_notL h h1
  simp only [mayI, h1, h2, false_and, or_false, true_and, and_true]
  rw [Fs.ext_iff', Fs.ext_iff', hcc]
  simp [zF]
theorem may_23 (hcc : x.cls = 23) (hw : x.Wf) : mayI x L ↔ ({ x with u := 0, cls := 0 } = zF 0 ∧ L = []) ∧ (x.u < 4294967296) := by
  have h1 : known x.cls := by rw [hcc]; simp [known]
  have h2 : ¬ isL x.cls := known_notL h1
  obtain ⟨hwc, hwa, hwb, hwcc, hwu, hwbw, hwsu, hwho, hwan, hwal, hwno⟩ := hw
  simp only [mayI, h1, h2, false_and, false_or, true_and, preB, if_true]
  rw [Fs.ext_iff', forall_isF, hcc]
  simp [zF, stepsOf, flds, Stp.fld, okS, Fs.get]
  constructor
  · intro h
    refine ⟨?_, ?_⟩ <;> (first | omega | (simp [h]; done) | (simp [h]; omega))
  · intro h
    refine ⟨?_, ?_⟩ <;> (first | omega | (simp [h]; done) | (simp [h]; omega))
theorem may_207 (hcc : x.cls = 207) (hw : x.Wf) : mayI x L ↔ ({ x with bw := 0, su := 0, ho := 0, an := 0, al := 0, no := 0, cls := 0 } = zF 0 ∧ L = []) ∧ (x.bw = 0) ∧ (0 ≤ x.su) ∧ (x.su ≤ 7) ∧ (0 ≤ x.ho) ∧ (x.ho ≤ 7) := by
  have h1 : known x.cls := by rw [hcc]; simp [known]
  have h2 : ¬ isL x.cls := known_notL h1
  obtain ⟨hwc, hwa, hwb, hwcc, hwu, hwbw, hwsu, hwho, hwan, hwal, hwno⟩ := hw
  simp only [mayI, h1, h2, false_and, false_or, true_and, preB, if_true]
  rw [Fs.ext_iff', forall_isF, hcc]
  simp [zF, stepsOf, flds, Stp.fld, okS, Fs.get]
  constructor
  · intro h
    refine ⟨?_, ?_⟩ <;> (first | omega | (simp [h]; done) | (simp [h]; omega))
  · intro h
    refine ⟨?_, ?_⟩ <;> (first | omega | (simp [h]; done) | (simp [h]; omega))
end
def shF (x : Fs) : Fs :=
  if x.cls = 1 ∨ x.cls = 6 then { x with a := 0, b := 0, c := 0, cls := 0 } else if x.cls = 3 ∨ x.cls = 16 ∨ x.cls = 19 then { x with a := 0, cls := 0 } else if x.cls = 5 ∨ x.cls = 9 ∨ x.cls = 12 ∨ x.cls = 23 then { x with u := 0, cls := 0 } else if x.cls = 10 ∨ x.cls = 11 then { x with a := 0, b := 0, cls := 0 } else if x.cls = 207 then { x with bw := 0, su := 0, ho := 0, an := 0, al := 0, no := 0, cls := 0 } else { x with cls := 0 }
def shM (x : Fs) (L : List Int) : List Int := if isL x.cls then [] else L
section
variable {x : Fs} {L : List Int}
theorem rshape_ok (σ : Heap) : ACalls Try.prog 34 [.agg (itC x (.imm (L.map eI)))] σ (fun y σ' => y = .agg (itC (shF x) (.imm ((shM x L).map eI))) ∧ Ext [] σ σ') := by
  by_cases hc1 : x.cls = 1
  · have e1 : shF x = { x with a := 0, b := 0, c := 0, cls := 0 } := by simp [shF, hc1]
    have e2 : shM x L = L := by simp [shM, isL, hc1]
    rw [e1, e2]; exact rshape_1 σ hc1
  by_cases hc3 : x.cls = 3
  · have e1 : shF x = { x with a := 0, cls := 0 } := by simp [shF, hc3]
    have e2 : shM x L = L := by simp [shM, isL, hc3]
    rw [e1, e2]; exact rshape_3 σ hc3
  by_cases hc5 : x.cls = 5
  · have e1 : shF x = { x with u := 0, cls := 0 } := by simp [shF, hc5]
    have e2 : shM x L = L := by simp [shM, isL, hc5]
    rw [e1, e2]; exact rshape_5 σ hc5
  by_cases hc6 : x.cls = 6
  · have e1 : shF x = { x with a := 0, b := 0, c := 0, cls := 0 } := by simp [shF, hc6]
    have e2 : shM x L = L := by simp [shM, isL, hc6]
    rw [e1, e2]; exact rshape_6 σ hc6
  by_cases hc8 : x.cls = 8
  · have e1 : shF x = { x with cls := 0 } := by simp [shF, hc8]
    have e2 : shM x L = L := by simp [shM, isL, hc8]
    rw [e1, e2]; exact rshape_8 σ hc8
  by_cases hc9 : x.cls = 9
  · have e1 : shF x = { x with u := 0, cls := 0 } := by simp [shF, hc9]
    have e2 : shM x L = L := by simp [shM, isL, hc9]
    rw [e1, e2]; exact rshape_9 σ hc9
  by_cases hc12 : x.cls = 12
  · have e1 : shF x = { x with u := 0, cls := 0 } := by simp [shF, hc12]
    have e2 : shM x L = L := by simp [shM, isL, hc12]
    rw [e1, e2]; exact rshape_12 σ hc12
  by_cases hc10 : x.cls = 10
  · have e1 : shF x = { x with a := 0, b := 0, cls := 0 } := by simp [shF, hc10]
    have e2 : shM x L = L := by simp [shM, isL, hc10]
    rw [e1, e2]; exact rshape_10 σ hc10
  by_cases hc11 : x.cls = 11
  · have e1 : shF x = { x with a := 0, b := 0, cls := 0 } := by simp [shF, hc11]
    have e2 : shM x L = L := by simp [shM, isL, hc11]
    rw [e1, e2]; exact rshape_11 σ hc11
  by_cases hc16 : x.cls = 16
  · have e1 : shF x = { x with a := 0, cls := 0 } := by simp [shF, hc16]
    have e2 : shM x L = L := by simp [shM, isL, hc16]
    rw [e1, e2]; exact rshape_16 σ hc16
  by_cases hc19 : x.cls = 19
  · have e1 : shF x = { x with a := 0, cls := 0 } := by simp [shF, hc19]
    have e2 : shM x L = L := by simp [shM, isL, hc19]
    rw [e1, e2]; exact rshape_19 σ hc19
  by_cases hc20 : x.cls = 20
  · have e1 : shF x = { x with cls := 0 } := by simp [shF, hc20]
    have e2 : shM x L = [] := by simp [shM, isL, hc20]
    rw [e1, e2]; exact rshape_20 σ hc20
  by_cases hc21 : x.cls = 21
  · have e1 : shF x = { x with cls := 0 } := by simp [shF, hc21]
    have e2 : shM x L = [] := by simp [shM, isL, hc21]
    rw [e1, e2]; exact rshape_21 σ hc21
  by_cases hc23 : x.cls = 23
  · have e1 : shF x = { x with u := 0, cls := 0 } := by simp [shF, hc23]
    have e2 : shM x L = L := by simp [shM, isL, hc23]
    rw [e1, e2]; exact rshape_23 σ hc23
  by_cases hc207 : x.cls = 207
  · have e1 : shF x = { x with bw := 0, su := 0, ho := 0, an := 0, al := 0, no := 0, cls := 0 } := by simp [shF, hc207]
    have e2 : shM x L = L := by simp [shM, isL, hc207]
    rw [e1, e2]; exact rshape_207 σ hc207
  have e1 : shF x = { x with cls := 0 } := by simp [shF, hc1, hc3, hc5, hc6, hc8, hc9, hc12, hc10, hc11, hc16, hc19, hc20, hc21, hc23, hc207]
  have e2 : shM x L = L := by simp [shM, isL, hc20, hc21]
  rw [e1, e2]; exact rshape_no σ ⟨hc1, hc3, hc5, hc6, hc8, hc9, hc12, hc10, hc11, hc16, hc19, hc20, hc21, hc23, hc207⟩
theorem may_sh (hw : x.Wf) (h : mayI x L) : shF x = zF 0 ∧ shM x L = [] := by
  have hk : known x.cls ∨ isL x.cls := by
    rcases h with ⟨h, _⟩ | ⟨h, _⟩
    · exact .inr h
    · exact .inl h
  have key : x.cls = 1 ∨ x.cls = 3 ∨ x.cls = 5 ∨ x.cls = 6 ∨ x.cls = 8 ∨ x.cls = 9 ∨ x.cls = 12 ∨ x.cls = 10 ∨ x.cls = 11 ∨ x.cls = 16 ∨ x.cls = 19 ∨ x.cls = 20 ∨ x.cls = 21 ∨ x.cls = 23 ∨ x.cls = 207 := by
    rcases hk with h | h
    · simp only [known] at h; omega
    · simp only [isL] at h; omega
  rcases key with hc | hc | hc | hc | hc | hc | hc | hc | hc | hc | hc | hc | hc | hc | hc
  · have e1 : shF x = { x with a := 0, b := 0, c := 0, cls := 0 } := by simp [shF, hc]
    have e2 : shM x L = L := by simp [shM, isL, hc]
    rw [e1, e2]; exact ((may_1 hc hw).1 h).1
  · have e1 : shF x = { x with a := 0, cls := 0 } := by simp [shF, hc]
    have e2 : shM x L = L := by simp [shM, isL, hc]
    rw [e1, e2]; exact ((may_3 hc hw).1 h).1
  · have e1 : shF x = { x with u := 0, cls := 0 } := by simp [shF, hc]
    have e2 : shM x L = L := by simp [shM, isL, hc]
    rw [e1, e2]; exact ((may_5 hc hw).1 h).1
  · have e1 : shF x = { x with a := 0, b := 0, c := 0, cls := 0 } := by simp [shF, hc]
    have e2 : shM x L = L := by simp [shM, isL, hc]
    rw [e1, e2]; exact ((may_6 hc hw).1 h).1
  · have e1 : shF x = { x with cls := 0 } := by simp [shF, hc]
    have e2 : shM x L = L := by simp [shM, isL, hc]
    rw [e1, e2]; exact ((may_8 hc hw).1 h)
  · have e1 : shF x = { x with u := 0, cls := 0 } := by simp [shF, hc]
    have e2 : shM x L = L := by simp [shM, isL, hc]
    rw [e1, e2]; exact ((may_9 hc hw).1 h)
  · have e1 : shF x = { x with u := 0, cls := 0 } := by simp [shF, hc]
    have e2 : shM x L = L := by simp [shM, isL, hc]
    rw [e1, e2]; exact ((may_12 hc hw).1 h)
  · have e1 : shF x = { x with a := 0, b := 0, cls := 0 } := by simp [shF, hc]
    have e2 : shM x L = L := by simp [shM, isL, hc]
    rw [e1, e2]; exact ((may_10 hc hw).1 h).1
  · have e1 : shF x = { x with a := 0, b := 0, cls := 0 } := by simp [shF, hc]
    have e2 : shM x L = L := by simp [shM, isL, hc]
    rw [e1, e2]; exact ((may_11 hc hw).1 h).1
  · have e1 : shF x = { x with a := 0, cls := 0 } := by simp [shF, hc]
    have e2 : shM x L = L := by simp [shM, isL, hc]
    rw [e1, e2]; exact ((may_16 hc hw).1 h).1
  · have e1 : shF x = { x with a := 0, cls := 0 } := by simp [shF, hc]
    have e2 : shM x L = L := by simp [shM, isL, hc]
    rw [e1, e2]; exact ((may_19 hc hw).1 h).1
  · have e1 : shF x = { x with cls := 0 } := by simp [shF, hc]
    have e2 : shM x L = [] := by simp [shM, isL, hc]
    rw [e1, e2]; exact ((may_20 hc hw).1 h).1
  · have e1 : shF x = { x with cls := 0 } := by simp [shF, hc]
    have e2 : shM x L = [] := by simp [shM, isL, hc]
    rw [e1, e2]; exact ((may_21 hc hw).1 h).1
  · have e1 : shF x = { x with u := 0, cls := 0 } := by simp [shF, hc]
    have e2 : shM x L = L := by simp [shM, isL, hc]
    rw [e1, e2]; exact ((may_23 hc hw).1 h).1
  · have e1 : shF x = { x with bw := 0, su := 0, ho := 0, an := 0, al := 0, no := 0, cls := 0 } := by simp [shF, hc]
    have e2 : shM x L = L := by simp [shM, isL, hc]
    rw [e1, e2]; exact ((may_207 hc hw).1 h).1
theorem rsz_ok (σ : Heap) (hL : L.length ≤ 1000000) : ACalls Try.prog 17 [.agg (itC x (.imm (L.map eI))), .agg (itC (zF 0) (.sc (.slice none 0 0)))] σ (fun r σ' => Ext [] σ σ' ∧ ∃ b : Bool, r = .sc (.bool b) ∧ (b = true ↔ x = zF 0 ∧ L = [])) :=
  ACalls.told (args' := [.agg (itC x (.imm (L.map eI))), .agg (itC (zF 0) (.imm (([] : List Int).map eI)))]) ⟨Tells.refl _, item_nil _, trivial⟩ (rsame_ok σ (x := x) (y := zF 0) (L := L) (M := []) hL)
theorem rMay_ok (σ : Heap) (hw : x.Wf) (hL : L.length ≤ 1000000) : ACalls Try.prog 21 [.agg (itC x (.imm (L.map eI)))] σ (fun y σ' => Ext [] σ σ' ∧ ∃ b : Bool, y = .sc (.bool b) ∧ (b = true ↔ mayI x L)) := by
  have hLs : (shM x L).length ≤ 1000000 := by
    unfold shM
    split
    · simp
    · exact hL
  refine ACalls.code hT Try.func21 rfl ?_
  simp only [Try.ntmps21, List.length_cons, List.length_nil, Nat.reduceSub, Nat.reduceAdd, List.replicate, List.cons_append, List.nil_append]
  repeat ((fail_if_success (with_reducible refine AW.at1 (id := 1) ?_)); (fail_if_success (with_reducible refine AW.at2 (id := 1) ?_)); first | (with_reducible first | refine AW.seq ?_ | refine AW.block ?_ | refine AW.skip ?_ | refine AW.ret ?_ | refine AW.exit ?_ | refine AW.reg hT ?_) | ((with_reducible refine AW.cond_true ?_ ?_); · rfl) | ((with_reducible refine AW.cond_false ?_ ?_); · rfl) | simp (maxSteps := 3000000) (maxDischargeDepth := 12) only [seval,push_cast,appendX,Try.results21,itC_len,itC_take,itC_leaf])
  refine AW.name (fun σ1 hσ1 => ?_)
  have gtx : σ1.get σ.n = some (RtO x (.imm (L.map eI))) := by subst hσ1; simp (maxSteps := 3000000) (maxDischargeDepth := 12) only [push_cast, appendX, Nat.reduceAdd, Nat.reduceEqDiff, Nat.reduceLT, Nat.reduceLeDiff, reduceIte, reduceCtorEq, RtO]
  have x01 : Ext [] σ σ1 := by subst hσ1; repeat (first | exact Ext.refl _ _ | assumption | refine Ext.push ?_ _ | ((refine Ext.set ?_ ?_ _); rotate_left; · (simp (maxSteps := 3000000) (maxDischargeDepth := 12) only [push_cast, appendX, Nat.reduceAdd, Nat.reduceEqDiff, Nat.reduceLT, Nat.reduceLeDiff, reduceIte, reduceCtorEq, gtx, Heap.lt gtx])) | ((refine Ext.then1 (by assumption) ?_ ?_); rotate_left; · (intro p hp _; first | assumption | exact List.mem_cons_of_mem _ hp | (cases hp; done) | (simp at hp; subst hp; simp))))
  clear hσ1
  generalize σ.n = p at gtx ⊢
  have gtx := gtx
  repeat (first | (with_reducible first | refine AW.seq ?_ | refine AW.block ?_ | refine AW.skip ?_ | refine AW.ret ?_ | refine AW.exit ?_ | refine AW.reg hT ?_) | ((with_reducible refine AW.cond_true ?_ ?_); · rfl) | ((with_reducible refine AW.cond_false ?_ ?_); · rfl) | simp (maxSteps := 3000000) (maxDischargeDepth := 12) only [seval,push_cast,appendX,Try.results21,RtO,itC_len,itC_take,gtx,Heap.lt gtx])
  refine AOpsL.call (first := []) (cap := []) hT rfl rfl rfl fn34 rfl (ACalls.mono (rshape_ok σ1) ?_)
  rintro r σ2 ⟨rfl, xt2⟩
  repeat (first | (with_reducible first | refine AW.seq ?_ | refine AW.block ?_ | refine AW.skip ?_ | refine AW.ret ?_ | refine AW.exit ?_ | refine AW.reg hT ?_) | ((with_reducible refine AW.cond_true ?_ ?_); · rfl) | ((with_reducible refine AW.cond_false ?_ ?_); · rfl) | simp (maxSteps := 3000000) (maxDischargeDepth := 12) only [seval,push_cast,appendX,Try.results21,gtx,Heap.lt gtx,xt2.2,xt2.ltT,xt2.leT])
  refine AOpsL.call (first := []) (cap := []) hT rfl rfl rfl fn17 rfl (ACalls.mono (rsz_ok σ2 hLs) ?_)
  rintro r σ3 ⟨xt3, b, rfl, hb⟩
  have gtx3 := xt3.get (xt2.get gtx (by simp)) (by simp)
  have x03 := (x01.trans xt2).trans xt3
  clear x01 xt2 xt3 gtx
  cases b with
  | false =>
    repeat (first | (with_reducible first | refine AW.seq ?_ | refine AW.block ?_ | refine AW.skip ?_ | refine AW.ret ?_ | refine AW.exit ?_ | refine AW.reg hT ?_) | ((with_reducible refine AW.cond_true ?_ ?_); · rfl) | ((with_reducible refine AW.cond_false ?_ ?_); · rfl) | simp (maxSteps := 3000000) (maxDischargeDepth := 12) only [seval,push_cast,appendX,Try.results21,gtx3,Heap.lt gtx3])
    exact ⟨x03, false, rfl, ⟨fun h => (by cases h), fun h => (by have := hb.2 (may_sh hw h); cases this)⟩⟩
  | true =>
  have hs := hb.1 rfl
  clear hb hLs
  repeat ((fail_if_success (with_reducible refine AW.at1 (id := 3) ?_)); (fail_if_success (with_reducible refine AW.at2 (id := 3) ?_)); first | (with_reducible first | refine AW.seq ?_ | refine AW.block ?_ | refine AW.skip ?_ | refine AW.ret ?_ | refine AW.exit ?_ | refine AW.reg hT ?_) | ((with_reducible refine AW.cond_true ?_ ?_); · rfl) | ((with_reducible refine AW.cond_false ?_ ?_); · rfl) | simp (maxSteps := 3000000) (maxDischargeDepth := 12) only [seval,push_cast,appendX,Try.results21,gtx3,Heap.lt gtx3])
  by_cases hc1 : x.cls = 1
  · skip
    have e1 : shF x = { x with a := 0, b := 0, c := 0, cls := 0 } := by simp [shF, hc1]
    have e2 : shM x L = L := by simp [shM, isL, hc1]
    rw [e1, e2] at hs
    have hm := may_1 (L := L) hc1 hw
    have dcc := hc1
    repeat (first | (with_reducible first | refine AW.seq ?_ | refine AW.block ?_ | refine AW.skip ?_ | refine AW.ret ?_ | refine AW.exit ?_ | refine AW.reg hT ?_) | ((with_reducible refine AW.cond_true ?_ ?_); · rfl) | ((with_reducible refine AW.cond_false ?_ ?_); · rfl) | simp (maxSteps := 3000000) (maxDischargeDepth := 12) only [seval,push_cast,appendX,Try.results21,RtO,itC,gtx3,Heap.lt gtx3,dcc])
    refine AOpsL.call (first := []) (cap := []) hT rfl rfl rfl fn35 rfl (ACalls.mono (rNode_ok _ (x.a)) ?_)
    rintro r σ4 ⟨rfl, rfl⟩
    by_cases h1 : (0 ≤ x.a ∧ x.a < 16)
    · have dct1 : decide (0 ≤ x.a ∧ x.a < 16) = true := decide_eq_true h1
      repeat (first | (with_reducible first | refine AW.seq ?_ | refine AW.block ?_ | refine AW.skip ?_ | refine AW.ret ?_ | refine AW.exit ?_ | refine AW.reg hT ?_) | ((with_reducible refine AW.cond_true ?_ ?_); · rfl) | ((with_reducible refine AW.cond_false ?_ ?_); · rfl) | simp (maxSteps := 3000000) (maxDischargeDepth := 12) only [seval,push_cast,appendX,Try.results21,RtO,itC,gtx3,Heap.lt gtx3,dcc,dct1])
      refine AOpsL.call (first := []) (cap := []) hT rfl rfl rfl fn36 rfl (ACalls.mono (rSmall_ok _ (x.b)) ?_)
      rintro r σ5 ⟨rfl, rfl⟩
      by_cases h2 : (0 ≤ x.b ∧ x.b ≤ 65535)
      · have dct2 : decide (0 ≤ x.b ∧ x.b ≤ 65535) = true := decide_eq_true h2
        repeat (first | (with_reducible first | refine AW.seq ?_ | refine AW.block ?_ | refine AW.skip ?_ | refine AW.ret ?_ | refine AW.exit ?_ | refine AW.reg hT ?_) | ((with_reducible refine AW.cond_true ?_ ?_); · rfl) | ((with_reducible refine AW.cond_false ?_ ?_); · rfl) | simp (maxSteps := 3000000) (maxDischargeDepth := 12) only [seval,push_cast,appendX,Try.results21,RtO,itC,gtx3,Heap.lt gtx3,dcc,dct1,dct2])
        refine AOpsL.call (first := []) (cap := []) hT rfl rfl rfl fn35 rfl (ACalls.mono (rNode_ok _ (x.c)) ?_)
        rintro r σ6 ⟨rfl, rfl⟩
        by_cases h3 : (0 ≤ x.c ∧ x.c < 16)
        · have dct3 : decide (0 ≤ x.c ∧ x.c < 16) = true := decide_eq_true h3
          repeat (first | (with_reducible first | refine AW.seq ?_ | refine AW.block ?_ | refine AW.skip ?_ | refine AW.ret ?_ | refine AW.exit ?_ | refine AW.reg hT ?_) | ((with_reducible refine AW.cond_true ?_ ?_); · rfl) | ((with_reducible refine AW.cond_false ?_ ?_); · rfl) | simp (maxSteps := 3000000) (maxDischargeDepth := 12) only [seval,push_cast,appendX,Try.results21,RtO,itC,gtx3,Heap.lt gtx3,dcc,dct1,dct2,dct3])
          exact ⟨x03, true, rfl, ⟨fun _ => hm.2 ⟨hs, h1, h2, h3⟩, fun _ => rfl⟩⟩
        · have dct3 : decide (0 ≤ x.c ∧ x.c < 16) = false := decide_eq_false h3
          repeat (first | (with_reducible first | refine AW.seq ?_ | refine AW.block ?_ | refine AW.skip ?_ | refine AW.ret ?_ | refine AW.exit ?_ | refine AW.reg hT ?_) | ((with_reducible refine AW.cond_true ?_ ?_); · rfl) | ((with_reducible refine AW.cond_false ?_ ?_); · rfl) | simp (maxSteps := 3000000) (maxDischargeDepth := 12) only [seval,push_cast,appendX,Try.results21,RtO,itC,gtx3,Heap.lt gtx3,dcc,dct1,dct2,dct3])
          exact ⟨x03, false, rfl, ⟨fun h => (by cases h), fun h => absurd ((hm.1 h).2.2.2) h3⟩⟩
      · have dct2 : decide (0 ≤ x.b ∧ x.b ≤ 65535) = false := decide_eq_false h2
        repeat (first | (with_reducible first | refine AW.seq ?_ | refine AW.block ?_ | refine AW.skip ?_ | refine AW.ret ?_ | refine AW.exit ?_ | refine AW.reg hT ?_) | ((with_reducible refine AW.cond_true ?_ ?_); · rfl) | ((with_reducible refine AW.cond_false ?_ ?_); · rfl) | simp (maxSteps := 3000000) (maxDischargeDepth := 12) only [seval,push_cast,appendX,Try.results21,RtO,itC,gtx3,Heap.lt gtx3,dcc,dct1,dct2])
        exact ⟨x03, false, rfl, ⟨fun h => (by cases h), fun h => absurd ((hm.1 h).2.2.1) h2⟩⟩
    · have dct1 : decide (0 ≤ x.a ∧ x.a < 16) = false := decide_eq_false h1
      repeat (first | (with_reducible first | refine AW.seq ?_ | refine AW.block ?_ | refine AW.skip ?_ | refine AW.ret ?_ | refine AW.exit ?_ | refine AW.reg hT ?_) | ((with_reducible refine AW.cond_true ?_ ?_); · rfl) | ((with_reducible refine AW.cond_false ?_ ?_); · rfl) | simp (maxSteps := 3000000) (maxDischargeDepth := 12) only [seval,push_cast,appendX,Try.results21,RtO,itC,gtx3,Heap.lt gtx3,dcc,dct1])
      exact ⟨x03, false, rfl, ⟨fun h => (by cases h), fun h => absurd ((hm.1 h).2.1) h1⟩⟩
  by_cases hc3 : x.cls = 3
  · skip
    have e1 : shF x = { x with a := 0, cls := 0 } := by simp [shF, hc3]
    have e2 : shM x L = L := by simp [shM, isL, hc3]
    rw [e1, e2] at hs
    have hm := may_3 (L := L) hc3 hw
    have dcc := hc3
    repeat (first | (with_reducible first | refine AW.seq ?_ | refine AW.block ?_ | refine AW.skip ?_ | refine AW.ret ?_ | refine AW.exit ?_ | refine AW.reg hT ?_) | ((with_reducible refine AW.cond_true ?_ ?_); · rfl) | ((with_reducible refine AW.cond_false ?_ ?_); · rfl) | simp (maxSteps := 3000000) (maxDischargeDepth := 12) only [seval,push_cast,appendX,Try.results21,RtO,itC,gtx3,Heap.lt gtx3,dcc])
    refine AOpsL.call (first := []) (cap := []) hT rfl rfl rfl fn35 rfl (ACalls.mono (rNode_ok _ (x.a)) ?_)
    rintro r σ4 ⟨rfl, rfl⟩
    by_cases h1 : (0 ≤ x.a ∧ x.a < 16)
    · have dct1 : decide (0 ≤ x.a ∧ x.a < 16) = true := decide_eq_true h1
      repeat (first | (with_reducible first | refine AW.seq ?_ | refine AW.block ?_ | refine AW.skip ?_ | refine AW.ret ?_ | refine AW.exit ?_ | refine AW.reg hT ?_) | ((with_reducible refine AW.cond_true ?_ ?_); · rfl) | ((with_reducible refine AW.cond_false ?_ ?_); · rfl) | simp (maxSteps := 3000000) (maxDischargeDepth := 12) only [seval,push_cast,appendX,Try.results21,RtO,itC,gtx3,Heap.lt gtx3,dcc,dct1])
      exact ⟨x03, true, rfl, ⟨fun _ => hm.2 ⟨hs, h1⟩, fun _ => rfl⟩⟩
    · have dct1 : decide (0 ≤ x.a ∧ x.a < 16) = false := decide_eq_false h1
      repeat (first | (with_reducible first | refine AW.seq ?_ | refine AW.block ?_ | refine AW.skip ?_ | refine AW.ret ?_ | refine AW.exit ?_ | refine AW.reg hT ?_) | ((with_reducible refine AW.cond_true ?_ ?_); · rfl) | ((with_reducible refine AW.cond_false ?_ ?_); · rfl) | simp (maxSteps := 3000000) (maxDischargeDepth := 12) only [seval,push_cast,appendX,Try.results21,RtO,itC,gtx3,Heap.lt gtx3,dcc,dct1])
      exact ⟨x03, false, rfl, ⟨fun h => (by cases h), fun h => absurd ((hm.1 h).2) h1⟩⟩
  by_cases hc5 : x.cls = 5
  · skip
    have e1 : shF x = { x with u := 0, cls := 0 } := by simp [shF, hc5]
    have e2 : shM x L = L := by simp [shM, isL, hc5]
    rw [e1, e2] at hs
    have hm := may_5 (L := L) hc5 hw
    have dcc := hc5
    by_cases h1 : (x.u < 4294967296)
    · have dct1 : decide (x.u < 4294967296) = true := decide_eq_true h1
      repeat (first | (with_reducible first | refine AW.seq ?_ | refine AW.block ?_ | refine AW.skip ?_ | refine AW.ret ?_ | refine AW.exit ?_ | refine AW.reg hT ?_) | ((with_reducible refine AW.cond_true ?_ ?_); · rfl) | ((with_reducible refine AW.cond_false ?_ ?_); · rfl) | simp (maxSteps := 3000000) (maxDischargeDepth := 12) only [seval,push_cast,appendX,Try.results21,RtO,itC,gtx3,Heap.lt gtx3,dcc,dct1])
      exact ⟨x03, true, rfl, ⟨fun _ => hm.2 ⟨hs, h1⟩, fun _ => rfl⟩⟩
    · have dct1 : decide (x.u < 4294967296) = false := decide_eq_false h1
      repeat (first | (with_reducible first | refine AW.seq ?_ | refine AW.block ?_ | refine AW.skip ?_ | refine AW.ret ?_ | refine AW.exit ?_ | refine AW.reg hT ?_) | ((with_reducible refine AW.cond_true ?_ ?_); · rfl) | ((with_reducible refine AW.cond_false ?_ ?_); · rfl) | simp (maxSteps := 3000000) (maxDischargeDepth := 12) only [seval,push_cast,appendX,Try.results21,RtO,itC,gtx3,Heap.lt gtx3,dcc,dct1])
      exact ⟨x03, false, rfl, ⟨fun h => (by cases h), fun h => absurd ((hm.1 h).2) h1⟩⟩
  by_cases hc6 : x.cls = 6
  · skip
    have e1 : shF x = { x with a := 0, b := 0, c := 0, cls := 0 } := by simp [shF, hc6]
    have e2 : shM x L = L := by simp [shM, isL, hc6]
    rw [e1, e2] at hs
    have hm := may_6 (L := L) hc6 hw
    have dcc := hc6
    repeat (first | (with_reducible first | refine AW.seq ?_ | refine AW.block ?_ | refine AW.skip ?_ | refine AW.ret ?_ | refine AW.exit ?_ | refine AW.reg hT ?_) | ((with_reducible refine AW.cond_true ?_ ?_); · rfl) | ((with_reducible refine AW.cond_false ?_ ?_); · rfl) | simp (maxSteps := 3000000) (maxDischargeDepth := 12) only [seval,push_cast,appendX,Try.results21,RtO,itC,gtx3,Heap.lt gtx3,dcc])
    refine AOpsL.call (first := []) (cap := []) hT rfl rfl rfl fn35 rfl (ACalls.mono (rNode_ok _ (x.a)) ?_)
    rintro r σ4 ⟨rfl, rfl⟩
    by_cases h1 : (0 ≤ x.a ∧ x.a < 16)
    · have dct1 : decide (0 ≤ x.a ∧ x.a < 16) = true := decide_eq_true h1
      by_cases h2 : (0 ≤ x.b)
      · have dct2 : decide (0 ≤ x.b) = true := decide_eq_true h2
        by_cases h3 : (x.b ≤ 255)
        · have dct3 : decide (x.b ≤ 255) = true := decide_eq_true h3
          repeat (first | (with_reducible first | refine AW.seq ?_ | refine AW.block ?_ | refine AW.skip ?_ | refine AW.ret ?_ | refine AW.exit ?_ | refine AW.reg hT ?_) | ((with_reducible refine AW.cond_true ?_ ?_); · rfl) | ((with_reducible refine AW.cond_false ?_ ?_); · rfl) | simp (maxSteps := 3000000) (maxDischargeDepth := 12) only [seval,push_cast,appendX,Try.results21,RtO,itC,gtx3,Heap.lt gtx3,dcc,dct1,dct2,dct3])
          refine AOpsL.call (first := []) (cap := []) hT rfl rfl rfl fn36 rfl (ACalls.mono (rSmall_ok _ (x.c)) ?_)
          rintro r σ7 ⟨rfl, rfl⟩
          by_cases h4 : (0 ≤ x.c ∧ x.c ≤ 65535)
          · have dct4 : decide (0 ≤ x.c ∧ x.c ≤ 65535) = true := decide_eq_true h4
            repeat (first | (with_reducible first | refine AW.seq ?_ | refine AW.block ?_ | refine AW.skip ?_ | refine AW.ret ?_ | refine AW.exit ?_ | refine AW.reg hT ?_) | ((with_reducible refine AW.cond_true ?_ ?_); · rfl) | ((with_reducible refine AW.cond_false ?_ ?_); · rfl) | simp (maxSteps := 3000000) (maxDischargeDepth := 12) only [seval,push_cast,appendX,Try.results21,RtO,itC,gtx3,Heap.lt gtx3,dcc,dct1,dct2,dct3,dct4])
            exact ⟨x03, true, rfl, ⟨fun _ => hm.2 ⟨hs, h1, h2, h3, h4⟩, fun _ => rfl⟩⟩
          · have dct4 : decide (0 ≤ x.c ∧ x.c ≤ 65535) = false := decide_eq_false h4
            repeat (first | (with_reducible first | refine AW.seq ?_ | refine AW.block ?_ | refine AW.skip ?_ | refine AW.ret ?_ | refine AW.exit ?_ | refine AW.reg hT ?_) | ((with_reducible refine AW.cond_true ?_ ?_); · rfl) | ((with_reducible refine AW.cond_false ?_ ?_); · rfl) | simp (maxSteps := 3000000) (maxDischargeDepth := 12) only [seval,push_cast,appendX,Try.results21,RtO,itC,gtx3,Heap.lt gtx3,dcc,dct1,dct2,dct3,dct4])
            exact ⟨x03, false, rfl, ⟨fun h => (by cases h), fun h => absurd ((hm.1 h).2.2.2.2) h4⟩⟩
        · have dct3 : decide (x.b ≤ 255) = false := decide_eq_false h3
          repeat (first | (with_reducible first | refine AW.seq ?_ | refine AW.block ?_ | refine AW.skip ?_ | refine AW.ret ?_ | refine AW.exit ?_ | refine AW.reg hT ?_) | ((with_reducible refine AW.cond_true ?_ ?_); · rfl) | ((with_reducible refine AW.cond_false ?_ ?_); · rfl) | simp (maxSteps := 3000000) (maxDischargeDepth := 12) only [seval,push_cast,appendX,Try.results21,RtO,itC,gtx3,Heap.lt gtx3,dcc,dct1,dct2,dct3])
          exact ⟨x03, false, rfl, ⟨fun h => (by cases h), fun h => absurd ((hm.1 h).2.2.2.1) h3⟩⟩
      · have dct2 : decide (0 ≤ x.b) = false := decide_eq_false h2
        repeat (first | (with_reducible first | refine AW.seq ?_ | refine AW.block ?_ | refine AW.skip ?_ | refine AW.ret ?_ | refine AW.exit ?_ | refine AW.reg hT ?_) | ((with_reducible refine AW.cond_true ?_ ?_); · rfl) | ((with_reducible refine AW.cond_false ?_ ?_); · rfl) | simp (maxSteps := 3000000) (maxDischargeDepth := 12) only [seval,push_cast,appendX,Try.results21,RtO,itC,gtx3,Heap.lt gtx3,dcc,dct1,dct2])
        exact ⟨x03, false, rfl, ⟨fun h => (by cases h), fun h => absurd ((hm.1 h).2.2.1) h2⟩⟩
    · have dct1 : decide (0 ≤ x.a ∧ x.a < 16) = false := decide_eq_false h1
      repeat (first | (with_reducible first | refine AW.seq ?_ | refine AW.block ?_ | refine AW.skip ?_ | refine AW.ret ?_ | refine AW.exit ?_ | refine AW.reg hT ?_) | ((with_reducible refine AW.cond_true ?_ ?_); · rfl) | ((with_reducible refine AW.cond_false ?_ ?_); · rfl) | simp (maxSteps := 3000000) (maxDischargeDepth := 12) only [seval,push_cast,appendX,Try.results21,RtO,itC,gtx3,Heap.lt gtx3,dcc,dct1])
      exact ⟨x03, false, rfl, ⟨fun h => (by cases h), fun h => absurd ((hm.1 h).2.1) h1⟩⟩
  by_cases hc8 : x.cls = 8
  · skip
    have e1 : shF x = { x with cls := 0 } := by simp [shF, hc8]
    have e2 : shM x L = L := by simp [shM, isL, hc8]
    rw [e1, e2] at hs
    have hm := may_8 (L := L) hc8 hw
    have dcc := hc8
    repeat (first | (with_reducible first | refine AW.seq ?_ | refine AW.block ?_ | refine AW.skip ?_ | refine AW.ret ?_ | refine AW.exit ?_ | refine AW.reg hT ?_) | ((with_reducible refine AW.cond_true ?_ ?_); · rfl) | ((with_reducible refine AW.cond_false ?_ ?_); · rfl) | simp (maxSteps := 3000000) (maxDischargeDepth := 12) only [seval,push_cast,appendX,Try.results21,RtO,itC,gtx3,Heap.lt gtx3,dcc])
    exact ⟨x03, true, rfl, ⟨fun _ => hm.2 hs, fun _ => rfl⟩⟩
  by_cases hc9 : x.cls = 9
  · skip
    have e1 : shF x = { x with u := 0, cls := 0 } := by simp [shF, hc9]
    have e2 : shM x L = L := by simp [shM, isL, hc9]
    rw [e1, e2] at hs
    have hm := may_9 (L := L) hc9 hw
    have dcc := hc9
    repeat (first | (with_reducible first | refine AW.seq ?_ | refine AW.block ?_ | refine AW.skip ?_ | refine AW.ret ?_ | refine AW.exit ?_ | refine AW.reg hT ?_) | ((with_reducible refine AW.cond_true ?_ ?_); · rfl) | ((with_reducible refine AW.cond_false ?_ ?_); · rfl) | simp (maxSteps := 3000000) (maxDischargeDepth := 12) only [seval,push_cast,appendX,Try.results21,RtO,itC,gtx3,Heap.lt gtx3,dcc])
    exact ⟨x03, true, rfl, ⟨fun _ => hm.2 hs, fun _ => rfl⟩⟩
  by_cases hc12 : x.cls = 12
  · skip
    have e1 : shF x = { x with u := 0, cls := 0 } := by simp [shF, hc12]
    have e2 : shM x L = L := by simp [shM, isL, hc12]
    rw [e1, e2] at hs
    have hm := may_12 (L := L) hc12 hw
    have dcc := hc12
    repeat (first | (with_reducible first | refine AW.seq ?_ | refine AW.block ?_ | refine AW.skip ?_ | refine AW.ret ?_ | refine AW.exit ?_ | refine AW.reg hT ?_) | ((with_reducible refine AW.cond_true ?_ ?_); · rfl) | ((with_reducible refine AW.cond_false ?_ ?_); · rfl) | simp (maxSteps := 3000000) (maxDischargeDepth := 12) only [seval,push_cast,appendX,Try.results21,RtO,itC,gtx3,Heap.lt gtx3,dcc])
    exact ⟨x03, true, rfl, ⟨fun _ => hm.2 hs, fun _ => rfl⟩⟩
  by_cases hc10 : x.cls = 10
  · skip
    have e1 : shF x = { x with a := 0, b := 0, cls := 0 } := by simp [shF, hc10]
    have e2 : shM x L = L := by simp [shM, isL, hc10]
    rw [e1, e2] at hs
    have hm := may_10 (L := L) hc10 hw
    have dcc := hc10
    repeat (first | (with_reducible first | refine AW.seq ?_ | refine AW.block ?_ | refine AW.skip ?_ | refine AW.ret ?_ | refine AW.exit ?_ | refine AW.reg hT ?_) | ((with_reducible refine AW.cond_true ?_ ?_); · rfl) | ((with_reducible refine AW.cond_false ?_ ?_); · rfl) | simp (maxSteps := 3000000) (maxDischargeDepth := 12) only [seval,push_cast,appendX,Try.results21,RtO,itC,gtx3,Heap.lt gtx3,dcc])
    refine AOpsL.call (first := []) (cap := []) hT rfl rfl rfl fn35 rfl (ACalls.mono (rNode_ok _ (x.a)) ?_)
    rintro r σ4 ⟨rfl, rfl⟩
    by_cases h1 : (0 ≤ x.a ∧ x.a < 16)
    · have dct1 : decide (0 ≤ x.a ∧ x.a < 16) = true := decide_eq_true h1
      repeat (first | (with_reducible first | refine AW.seq ?_ | refine AW.block ?_ | refine AW.skip ?_ | refine AW.ret ?_ | refine AW.exit ?_ | refine AW.reg hT ?_) | ((with_reducible refine AW.cond_true ?_ ?_); · rfl) | ((with_reducible refine AW.cond_false ?_ ?_); · rfl) | simp (maxSteps := 3000000) (maxDischargeDepth := 12) only [seval,push_cast,appendX,Try.results21,RtO,itC,gtx3,Heap.lt gtx3,dcc,dct1])
      refine AOpsL.call (first := []) (cap := []) hT rfl rfl rfl fn36 rfl (ACalls.mono (rSmall_ok _ (x.b)) ?_)
      rintro r σ5 ⟨rfl, rfl⟩
      by_cases h2 : (0 ≤ x.b ∧ x.b ≤ 65535)
      · have dct2 : decide (0 ≤ x.b ∧ x.b ≤ 65535) = true := decide_eq_true h2
        repeat (first | (with_reducible first | refine AW.seq ?_ | refine AW.block ?_ | refine AW.skip ?_ | refine AW.ret ?_ | refine AW.exit ?_ | refine AW.reg hT ?_) | ((with_reducible refine AW.cond_true ?_ ?_); · rfl) | ((with_reducible refine AW.cond_false ?_ ?_); · rfl) | simp (maxSteps := 3000000) (maxDischargeDepth := 12) only [seval,push_cast,appendX,Try.results21,RtO,itC,gtx3,Heap.lt gtx3,dcc,dct1,dct2])
        exact ⟨x03, true, rfl, ⟨fun _ => hm.2 ⟨hs, h1, h2⟩, fun _ => rfl⟩⟩
      · have dct2 : decide (0 ≤ x.b ∧ x.b ≤ 65535) = false := decide_eq_false h2
        repeat (first | (with_reducible first | refine AW.seq ?_ | refine AW.block ?_ | refine AW.skip ?_ | refine AW.ret ?_ | refine AW.exit ?_ | refine AW.reg hT ?_) | ((with_reducible refine AW.cond_true ?_ ?_); · rfl) | ((with_reducible refine AW.cond_false ?_ ?_); · rfl) | simp (maxSteps := 3000000) (maxDischargeDepth := 12) only [seval,push_cast,appendX,Try.results21,RtO,itC,gtx3,Heap.lt gtx3,dcc,dct1,dct2])
        exact ⟨x03, false, rfl, ⟨fun h => (by cases h), fun h => absurd ((hm.1 h).2.2) h2⟩⟩
    · have dct1 : decide (0 ≤ x.a ∧ x.a < 16) = false := decide_eq_false h1
      repeat (first | (with_reducible first | refine AW.seq ?_ | refine AW.block ?_ | refine AW.skip ?_ | refine AW.ret ?_ | refine AW.exit ?_ | refine AW.reg hT ?_) | ((with_reducible refine AW.cond_true ?_ ?_); · rfl) | ((with_reducible refine AW.cond_false ?_ ?_); · rfl) | simp (maxSteps := 3000000) (maxDischargeDepth := 12) only [seval,push_cast,appendX,Try.results21,RtO,itC,gtx3,Heap.lt gtx3,dcc,dct1])
      exact ⟨x03, false, rfl, ⟨fun h => (by cases h), fun h => absurd ((hm.1 h).2.1) h1⟩⟩
  by_cases hc11 : x.cls = 11
  · skip
    have e1 : shF x = { x with a := 0, b := 0, cls := 0 } := by simp [shF, hc11]
    have e2 : shM x L = L := by simp [shM, isL, hc11]
    rw [e1, e2] at hs
    have hm := may_11 (L := L) hc11 hw
    have dcc := hc11
    repeat (first | (with_reducible first | refine AW.seq ?_ | refine AW.block ?_ | refine AW.skip ?_ | refine AW.ret ?_ | refine AW.exit ?_ | refine AW.reg hT ?_) | ((with_reducible refine AW.cond_true ?_ ?_); · rfl) | ((with_reducible refine AW.cond_false ?_ ?_); · rfl) | simp (maxSteps := 3000000) (maxDischargeDepth := 12) only [seval,push_cast,appendX,Try.results21,RtO,itC,gtx3,Heap.lt gtx3,dcc])
    refine AOpsL.call (first := []) (cap := []) hT rfl rfl rfl fn35 rfl (ACalls.mono (rNode_ok _ (x.a)) ?_)
    rintro r σ4 ⟨rfl, rfl⟩
    by_cases h1 : (0 ≤ x.a ∧ x.a < 16)
    · have dct1 : decide (0 ≤ x.a ∧ x.a < 16) = true := decide_eq_true h1
      repeat (first | (with_reducible first | refine AW.seq ?_ | refine AW.block ?_ | refine AW.skip ?_ | refine AW.ret ?_ | refine AW.exit ?_ | refine AW.reg hT ?_) | ((with_reducible refine AW.cond_true ?_ ?_); · rfl) | ((with_reducible refine AW.cond_false ?_ ?_); · rfl) | simp (maxSteps := 3000000) (maxDischargeDepth := 12) only [seval,push_cast,appendX,Try.results21,RtO,itC,gtx3,Heap.lt gtx3,dcc,dct1])
      refine AOpsL.call (first := []) (cap := []) hT rfl rfl rfl fn36 rfl (ACalls.mono (rSmall_ok _ (x.b)) ?_)
      rintro r σ5 ⟨rfl, rfl⟩
      by_cases h2 : (0 ≤ x.b ∧ x.b ≤ 65535)
      · have dct2 : decide (0 ≤ x.b ∧ x.b ≤ 65535) = true := decide_eq_true h2
        repeat (first | (with_reducible first | refine AW.seq ?_ | refine AW.block ?_ | refine AW.skip ?_ | refine AW.ret ?_ | refine AW.exit ?_ | refine AW.reg hT ?_) | ((with_reducible refine AW.cond_true ?_ ?_); · rfl) | ((with_reducible refine AW.cond_false ?_ ?_); · rfl) | simp (maxSteps := 3000000) (maxDischargeDepth := 12) only [seval,push_cast,appendX,Try.results21,RtO,itC,gtx3,Heap.lt gtx3,dcc,dct1,dct2])
        exact ⟨x03, true, rfl, ⟨fun _ => hm.2 ⟨hs, h1, h2⟩, fun _ => rfl⟩⟩
      · have dct2 : decide (0 ≤ x.b ∧ x.b ≤ 65535) = false := decide_eq_false h2
        repeat (first | (with_reducible first | refine AW.seq ?_ | refine AW.block ?_ | refine AW.skip ?_ | refine AW.ret ?_ | refine AW.exit ?_ | refine AW.reg hT ?_) | ((with_reducible refine AW.cond_true ?_ ?_); · rfl) | ((with_reducible refine AW.cond_false ?_ ?_); · rfl) | simp (maxSteps := 3000000) (maxDischargeDepth := 12) only [seval,push_cast,appendX,Try.results21,RtO,itC,gtx3,Heap.lt gtx3,dcc,dct1,dct2])
        exact ⟨x03, false, rfl, ⟨fun h => (by cases h), fun h => absurd ((hm.1 h).2.2) h2⟩⟩
    · have dct1 : decide (0 ≤ x.a ∧ x.a < 16) = false := decide_eq_false h1
      repeat (first | (with_reducible first | refine AW.seq ?_ | refine AW.block ?_ | refine AW.skip ?_ | refine AW.ret ?_ | refine AW.exit ?_ | refine AW.reg hT ?_) | ((with_reducible refine AW.cond_true ?_ ?_); · rfl) | ((with_reducible refine AW.cond_false ?_ ?_); · rfl) | simp (maxSteps := 3000000) (maxDischargeDepth := 12) only [seval,push_cast,appendX,Try.results21,RtO,itC,gtx3,Heap.lt gtx3,dcc,dct1])
      exact ⟨x03, false, rfl, ⟨fun h => (by cases h), fun h => absurd ((hm.1 h).2.1) h1⟩⟩
  by_cases hc16 : x.cls = 16
  · skip
    have e1 : shF x = { x with a := 0, cls := 0 } := by simp [shF, hc16]
    have e2 : shM x L = L := by simp [shM, isL, hc16]
    rw [e1, e2] at hs
    have hm := may_16 (L := L) hc16 hw
    have dcc := hc16
    by_cases h1 : (0 ≤ x.a)
    · have dct1 : decide (0 ≤ x.a) = true := decide_eq_true h1
      by_cases h2 : (x.a ≤ 1048575)
      · have dct2 : decide (x.a ≤ 1048575) = true := decide_eq_true h2
        repeat (first | (with_reducible first | refine AW.seq ?_ | refine AW.block ?_ | refine AW.skip ?_ | refine AW.ret ?_ | refine AW.exit ?_ | refine AW.reg hT ?_) | ((with_reducible refine AW.cond_true ?_ ?_); · rfl) | ((with_reducible refine AW.cond_false ?_ ?_); · rfl) | simp (maxSteps := 3000000) (maxDischargeDepth := 12) only [seval,push_cast,appendX,Try.results21,RtO,itC,gtx3,Heap.lt gtx3,dcc,dct1,dct2])
        exact ⟨x03, true, rfl, ⟨fun _ => hm.2 ⟨hs, h1, h2⟩, fun _ => rfl⟩⟩
      · have dct2 : decide (x.a ≤ 1048575) = false := decide_eq_false h2
        repeat (first | (with_reducible first | refine AW.seq ?_ | refine AW.block ?_ | refine AW.skip ?_ | refine AW.ret ?_ | refine AW.exit ?_ | refine AW.reg hT ?_) | ((with_reducible refine AW.cond_true ?_ ?_); · rfl) | ((with_reducible refine AW.cond_false ?_ ?_); · rfl) | simp (maxSteps := 3000000) (maxDischargeDepth := 12) only [seval,push_cast,appendX,Try.results21,RtO,itC,gtx3,Heap.lt gtx3,dcc,dct1,dct2])
        exact ⟨x03, false, rfl, ⟨fun h => (by cases h), fun h => absurd ((hm.1 h).2.2) h2⟩⟩
    · have dct1 : decide (0 ≤ x.a) = false := decide_eq_false h1
      repeat (first | (with_reducible first | refine AW.seq ?_ | refine AW.block ?_ | refine AW.skip ?_ | refine AW.ret ?_ | refine AW.exit ?_ | refine AW.reg hT ?_) | ((with_reducible refine AW.cond_true ?_ ?_); · rfl) | ((with_reducible refine AW.cond_false ?_ ?_); · rfl) | simp (maxSteps := 3000000) (maxDischargeDepth := 12) only [seval,push_cast,appendX,Try.results21,RtO,itC,gtx3,Heap.lt gtx3,dcc,dct1])
      exact ⟨x03, false, rfl, ⟨fun h => (by cases h), fun h => absurd ((hm.1 h).2.1) h1⟩⟩
  by_cases hc19 : x.cls = 19
  · skip
    have e1 : shF x = { x with a := 0, cls := 0 } := by simp [shF, hc19]
    have e2 : shM x L = L := by simp [shM, isL, hc19]
    rw [e1, e2] at hs
    have hm := may_19 (L := L) hc19 hw
    have dcc := hc19
    repeat (first | (with_reducible first | refine AW.seq ?_ | refine AW.block ?_ | refine AW.skip ?_ | refine AW.ret ?_ | refine AW.exit ?_ | refine AW.reg hT ?_) | ((with_reducible refine AW.cond_true ?_ ?_); · rfl) | ((with_reducible refine AW.cond_false ?_ ?_); · rfl) | simp (maxSteps := 3000000) (maxDischargeDepth := 12) only [seval,push_cast,appendX,Try.results21,RtO,itC,gtx3,Heap.lt gtx3,dcc])
    refine AOpsL.call (first := []) (cap := []) hT rfl rfl rfl fn36 rfl (ACalls.mono (rSmall_ok _ (x.a)) ?_)
    rintro r σ4 ⟨rfl, rfl⟩
    by_cases h1 : (0 ≤ x.a ∧ x.a ≤ 65535)
    · have dct1 : decide (0 ≤ x.a ∧ x.a ≤ 65535) = true := decide_eq_true h1
      repeat (first | (with_reducible first | refine AW.seq ?_ | refine AW.block ?_ | refine AW.skip ?_ | refine AW.ret ?_ | refine AW.exit ?_ | refine AW.reg hT ?_) | ((with_reducible refine AW.cond_true ?_ ?_); · rfl) | ((with_reducible refine AW.cond_false ?_ ?_); · rfl) | simp (maxSteps := 3000000) (maxDischargeDepth := 12) only [seval,push_cast,appendX,Try.results21,RtO,itC,gtx3,Heap.lt gtx3,dcc,dct1])
      exact ⟨x03, true, rfl, ⟨fun _ => hm.2 ⟨hs, h1⟩, fun _ => rfl⟩⟩
    · have dct1 : decide (0 ≤ x.a ∧ x.a ≤ 65535) = false := decide_eq_false h1
      repeat (first | (with_reducible first | refine AW.seq ?_ | refine AW.block ?_ | refine AW.skip ?_ | refine AW.ret ?_ | refine AW.exit ?_ | refine AW.reg hT ?_) | ((with_reducible refine AW.cond_true ?_ ?_); · rfl) | ((with_reducible refine AW.cond_false ?_ ?_); · rfl) | simp (maxSteps := 3000000) (maxDischargeDepth := 12) only [seval,push_cast,appendX,Try.results21,RtO,itC,gtx3,Heap.lt gtx3,dcc,dct1])
      exact ⟨x03, false, rfl, ⟨fun h => (by cases h), fun h => absurd ((hm.1 h).2) h1⟩⟩
  by_cases hc20 : x.cls = 20
  · skip
    have e1 : shF x = { x with cls := 0 } := by simp [shF, hc20]
    have e2 : shM x L = [] := by simp [shM, isL, hc20]
    rw [e1, e2] at hs
    have hm := may_20 (L := L) hc20 hw
    have dcc := hc20
    repeat (first | (with_reducible first | refine AW.seq ?_ | refine AW.block ?_ | refine AW.skip ?_ | refine AW.ret ?_ | refine AW.exit ?_ | refine AW.reg hT ?_) | ((with_reducible refine AW.cond_true ?_ ?_); · rfl) | ((with_reducible refine AW.cond_false ?_ ?_); · rfl) | simp (maxSteps := 3000000) (maxDischargeDepth := 12) only [seval,push_cast,appendX,Try.results21,RtO,itC,gtx3,Heap.lt gtx3,dcc])
    refine AOpsL.call (first := []) (cap := []) hT rfl rfl rfl fn37 rfl (ACalls.mono (rNodes_ok _ L) ?_)
    rintro r σ4 ⟨rfl, b2, rfl, hb2⟩
    repeat (first | (with_reducible first | refine AW.seq ?_ | refine AW.block ?_ | refine AW.skip ?_ | refine AW.ret ?_ | refine AW.exit ?_ | refine AW.reg hT ?_) | ((with_reducible refine AW.cond_true ?_ ?_); · rfl) | ((with_reducible refine AW.cond_false ?_ ?_); · rfl) | simp (maxSteps := 3000000) (maxDischargeDepth := 12) only [seval,push_cast,appendX,Try.results21,RtO,itC,gtx3,Heap.lt gtx3,dcc])
    exact ⟨x03, b2, rfl, ⟨fun h => hm.2 ⟨hs, hb2.1 h⟩, fun h => hb2.2 (hm.1 h).2⟩⟩
  by_cases hc21 : x.cls = 21
  · skip
    have e1 : shF x = { x with cls := 0 } := by simp [shF, hc21]
    have e2 : shM x L = [] := by simp [shM, isL, hc21]
    rw [e1, e2] at hs
    have hm := may_21 (L := L) hc21 hw
    have dcc := hc21
    repeat (first | (with_reducible first | refine AW.seq ?_ | refine AW.block ?_ | refine AW.skip ?_ | refine AW.ret ?_ | refine AW.exit ?_ | refine AW.reg hT ?_) | ((with_reducible refine AW.cond_true ?_ ?_); · rfl) | ((with_reducible refine AW.cond_false ?_ ?_); · rfl) | simp (maxSteps := 3000000) (maxDischargeDepth := 12) only [seval,push_cast,appendX,Try.results21,RtO,itC,gtx3,Heap.lt gtx3,dcc])
    refine AOpsL.call (first := []) (cap := []) hT rfl rfl rfl fn37 rfl (ACalls.mono (rNodes_ok _ L) ?_)
    rintro r σ4 ⟨rfl, b2, rfl, hb2⟩
    repeat (first | (with_reducible first | refine AW.seq ?_ | refine AW.block ?_ | refine AW.skip ?_ | refine AW.ret ?_ | refine AW.exit ?_ | refine AW.reg hT ?_) | ((with_reducible refine AW.cond_true ?_ ?_); · rfl) | ((with_reducible refine AW.cond_false ?_ ?_); · rfl) | simp (maxSteps := 3000000) (maxDischargeDepth := 12) only [seval,push_cast,appendX,Try.results21,RtO,itC,gtx3,Heap.lt gtx3,dcc])
    exact ⟨x03, b2, rfl, ⟨fun h => hm.2 ⟨hs, hb2.1 h⟩, fun h => hb2.2 (hm.1 h).2⟩⟩
  by_cases hc23 : x.cls = 23
  · skip
    have e1 : shF x = { x with u := 0, cls := 0 } := by simp [shF, hc23]
    have e2 : shM x L = L := by simp [shM, isL, hc23]
    rw [e1, e2] at hs
    have hm := may_23 (L := L) hc23 hw
    have dcc := hc23
    by_cases h1 : (x.u < 4294967296)
    · have dct1 : decide (x.u < 4294967296) = true := decide_eq_true h1
      repeat (first | (with_reducible first | refine AW.seq ?_ | refine AW.block ?_ | refine AW.skip ?_ | refine AW.ret ?_ | refine AW.exit ?_ | refine AW.reg hT ?_) | ((with_reducible refine AW.cond_true ?_ ?_); · rfl) | ((with_reducible refine AW.cond_false ?_ ?_); · rfl) | simp (maxSteps := 3000000) (maxDischargeDepth := 12) only [seval,push_cast,appendX,Try.results21,RtO,itC,gtx3,Heap.lt gtx3,dcc,dct1])
      exact ⟨x03, true, rfl, ⟨fun _ => hm.2 ⟨hs, h1⟩, fun _ => rfl⟩⟩
    · have dct1 : decide (x.u < 4294967296) = false := decide_eq_false h1
      repeat (first | (with_reducible first | refine AW.seq ?_ | refine AW.block ?_ | refine AW.skip ?_ | refine AW.ret ?_ | refine AW.exit ?_ | refine AW.reg hT ?_) | ((with_reducible refine AW.cond_true ?_ ?_); · rfl) | ((with_reducible refine AW.cond_false ?_ ?_); · rfl) | simp (maxSteps := 3000000) (maxDischargeDepth := 12) only [seval,push_cast,appendX,Try.results21,RtO,itC,gtx3,Heap.lt gtx3,dcc,dct1])
      exact ⟨x03, false, rfl, ⟨fun h => (by cases h), fun h => absurd ((hm.1 h).2) h1⟩⟩
  by_cases hc207 : x.cls = 207
  · skip
    have e1 : shF x = { x with bw := 0, su := 0, ho := 0, an := 0, al := 0, no := 0, cls := 0 } := by simp [shF, hc207]
    have e2 : shM x L = L := by simp [shM, isL, hc207]
    rw [e1, e2] at hs
    have hm := may_207 (L := L) hc207 hw
    have dcc := hc207
    by_cases h1 : (x.bw = 0)
    · have dct1 : (x.bw == 0) = true := by simpa using h1
      by_cases h2 : (0 ≤ x.su)
      · have dct2 : decide (0 ≤ x.su) = true := decide_eq_true h2
        by_cases h3 : (x.su ≤ 7)
        · have dct3 : decide (x.su ≤ 7) = true := decide_eq_true h3
          by_cases h4 : (0 ≤ x.ho)
          · have dct4 : decide (0 ≤ x.ho) = true := decide_eq_true h4
            by_cases h5 : (x.ho ≤ 7)
            · have dct5 : decide (x.ho ≤ 7) = true := decide_eq_true h5
              repeat (first | (with_reducible first | refine AW.seq ?_ | refine AW.block ?_ | refine AW.skip ?_ | refine AW.ret ?_ | refine AW.exit ?_ | refine AW.reg hT ?_) | ((with_reducible refine AW.cond_true ?_ ?_); · rfl) | ((with_reducible refine AW.cond_false ?_ ?_); · rfl) | simp (maxSteps := 3000000) (maxDischargeDepth := 12) only [seval,push_cast,appendX,Try.results21,RtO,itC,gtx3,Heap.lt gtx3,dcc,dct1,dct2,dct3,dct4,dct5])
              exact ⟨x03, true, rfl, ⟨fun _ => hm.2 ⟨hs, h1, h2, h3, h4, h5⟩, fun _ => rfl⟩⟩
            · have dct5 : decide (x.ho ≤ 7) = false := decide_eq_false h5
              repeat (first | (with_reducible first | refine AW.seq ?_ | refine AW.block ?_ | refine AW.skip ?_ | refine AW.ret ?_ | refine AW.exit ?_ | refine AW.reg hT ?_) | ((with_reducible refine AW.cond_true ?_ ?_); · rfl) | ((with_reducible refine AW.cond_false ?_ ?_); · rfl) | simp (maxSteps := 3000000) (maxDischargeDepth := 12) only [seval,push_cast,appendX,Try.results21,RtO,itC,gtx3,Heap.lt gtx3,dcc,dct1,dct2,dct3,dct4,dct5])
              exact ⟨x03, false, rfl, ⟨fun h => (by cases h), fun h => absurd ((hm.1 h).2.2.2.2.2) h5⟩⟩
          · have dct4 : decide (0 ≤ x.ho) = false := decide_eq_false h4
            repeat (first | (with_reducible first | refine AW.seq ?_ | refine AW.block ?_ | refine AW.skip ?_ | refine AW.ret ?_ | refine AW.exit ?_ | refine AW.reg hT ?_) | ((with_reducible refine AW.cond_true ?_ ?_); · rfl) | ((with_reducible refine AW.cond_false ?_ ?_); · rfl) | simp (maxSteps := 3000000) (maxDischargeDepth := 12) only [seval,push_cast,appendX,Try.results21,RtO,itC,gtx3,Heap.lt gtx3,dcc,dct1,dct2,dct3,dct4])
            exact ⟨x03, false, rfl, ⟨fun h => (by cases h), fun h => absurd ((hm.1 h).2.2.2.2.1) h4⟩⟩
        · have dct3 : decide (x.su ≤ 7) = false := decide_eq_false h3
          repeat (first | (with_reducible first | refine AW.seq ?_ | refine AW.block ?_ | refine AW.skip ?_ | refine AW.ret ?_ | refine AW.exit ?_ | refine AW.reg hT ?_) | ((with_reducible refine AW.cond_true ?_ ?_); · rfl) | ((with_reducible refine AW.cond_false ?_ ?_); · rfl) | simp (maxSteps := 3000000) (maxDischargeDepth := 12) only [seval,push_cast,appendX,Try.results21,RtO,itC,gtx3,Heap.lt gtx3,dcc,dct1,dct2,dct3])
          exact ⟨x03, false, rfl, ⟨fun h => (by cases h), fun h => absurd ((hm.1 h).2.2.2.1) h3⟩⟩
      · have dct2 : decide (0 ≤ x.su) = false := decide_eq_false h2
        repeat (first | (with_reducible first | refine AW.seq ?_ | refine AW.block ?_ | refine AW.skip ?_ | refine AW.ret ?_ | refine AW.exit ?_ | refine AW.reg hT ?_) | ((with_reducible refine AW.cond_true ?_ ?_); · rfl) | ((with_reducible refine AW.cond_false ?_ ?_); · rfl) | simp (maxSteps := 3000000) (maxDischargeDepth := 12) only [seval,push_cast,appendX,Try.results21,RtO,itC,gtx3,Heap.lt gtx3,dcc,dct1,dct2])
        exact ⟨x03, false, rfl, ⟨fun h => (by cases h), fun h => absurd ((hm.1 h).2.2.1) h2⟩⟩
    · have dct1 : (x.bw == 0) = false := by simpa using h1
      repeat (first | (with_reducible first | refine AW.seq ?_ | refine AW.block ?_ | refine AW.skip ?_ | refine AW.ret ?_ | refine AW.exit ?_ | refine AW.reg hT ?_) | ((with_reducible refine AW.cond_true ?_ ?_); · rfl) | ((with_reducible refine AW.cond_false ?_ ?_); · rfl) | simp (maxSteps := 3000000) (maxDischargeDepth := 12) only [seval,push_cast,appendX,Try.results21,RtO,itC,gtx3,Heap.lt gtx3,dcc,dct1])
      exact ⟨x03, false, rfl, ⟨fun h => (by cases h), fun h => absurd ((hm.1 h).2.1) h1⟩⟩
  have dcq1 : (x.cls == 1) = false := by simpa using hc1
  have dcq3 : (x.cls == 3) = false := by simpa using hc3
  have dcq5 : (x.cls == 5) = false := by simpa using hc5
  have dcq6 : (x.cls == 6) = false := by simpa using hc6
  have dcq8 : (x.cls == 8) = false := by simpa using hc8
  have dcq9 : (x.cls == 9) = false := by simpa using hc9
  have dcq12 : (x.cls == 12) = false := by simpa using hc12
  have dcq10 : (x.cls == 10) = false := by simpa using hc10
  have dcq11 : (x.cls == 11) = false := by simpa using hc11
  have dcq16 : (x.cls == 16) = false := by simpa using hc16
  have dcq19 : (x.cls == 19) = false := by simpa using hc19
  have dcq20 : (x.cls == 20) = false := by simpa using hc20
  have dcq21 : (x.cls == 21) = false := by simpa using hc21
  have dcq23 : (x.cls == 23) = false := by simpa using hc23
  have dcq207 : (x.cls == 207) = false := by simpa using hc207
  repeat (first | (with_reducible first | refine AW.seq ?_ | refine AW.block ?_ | refine AW.skip ?_ | refine AW.ret ?_ | refine AW.exit ?_ | refine AW.reg hT ?_) | ((with_reducible refine AW.cond_true ?_ ?_); · rfl) | ((with_reducible refine AW.cond_false ?_ ?_); · rfl) | simp (maxSteps := 3000000) (maxDischargeDepth := 12) only [seval,push_cast,appendX,Try.results21,RtO,itC,gtx3,Heap.lt gtx3,dcq1,dcq3,dcq5,dcq6,dcq8,dcq9,dcq12,dcq10,dcq11,dcq16,dcq19,dcq20,dcq21,dcq23,dcq207])
  refine ⟨x03, false, rfl, ⟨fun h => (by cases h), fun h => ?_⟩⟩
  rcases h with ⟨h, _⟩ | ⟨h, _⟩
  · simp only [isL] at h; omega
  · simp only [known] at h; omega
end
def eP (p : Nat × Int) : List DV := [.sc (.int .i64 p.1), .sc (.int .u64 p.2)]
def pD (p : Nat × Int) : List Int := digits p.1 p.2
def pOk (p : Nat × Int) : Prop := p.1 ≤ 8 ∧ 0 ≤ p.2 ∧ p.2 < 18446744073709551616
def hopP (v : Int) : List (Nat × Int) := [(2, 264), (4, 167772160 + v), (2, 8192)]
theorem rnum_ok (σ : Heap) (n : Nat) (u : Int) (h0 : 0 ≤ u) (h1 : u ≤ 9223372036854775807) : ACalls Try.prog 40 [.sc (.int .i64 n), .sc (.int .i64 u)] σ (fun y σ' => y = .agg (eP (n, u)) ∧ Ext [] σ σ') := by
  have dcw : IntKind.u64.wrap u = u := wrap_u64 h0 (by omega)
  refine ACalls.code hT Try.func40 rfl ?_
  simp only [Try.ntmps40, List.length_cons, List.length_nil, Nat.reduceSub, Nat.reduceAdd, List.replicate, List.cons_append, List.nil_append]
  repeat (first | (with_reducible first | refine AW.seq ?_ | refine AW.block ?_ | refine AW.skip ?_ | refine AW.ret ?_ | refine AW.exit ?_ | refine AW.reg hT ?_) | ((with_reducible refine AW.cond_true ?_ ?_); · rfl) | ((with_reducible refine AW.cond_false ?_ ?_); · rfl) | simp (maxSteps := 3000000) (maxDischargeDepth := 12) only [seval,push_cast,appendX,Try.results40,eP,dcw])
  repeat (first | exact Ext.refl _ _ | assumption | refine Ext.push ?_ _ | ((refine Ext.set ?_ ?_ _); rotate_left; · (simp (maxSteps := 3000000) (maxDischargeDepth := 12) only [push_cast, appendX, Nat.reduceAdd, Nat.reduceEqDiff, Nat.reduceLT, Nat.reduceLeDiff, reduceIte, reduceCtorEq, dcw])) | ((refine Ext.then1 (by assumption) ?_ ?_); rotate_left; · (intro p hp _; first | assumption | exact List.mem_cons_of_mem _ hp | (cases hp; done) | (simp at hp; subst hp; simp))))
theorem raddr_ok (σ : Heap) (v : Int) (h0 : 0 ≤ v) (h1 : v < 16) : ACalls Try.prog 39 [.sc (.int .i64 v)] σ (fun y σ' => y = .agg (eP (4, 167772160 + v)) ∧ Ext [] σ σ') := by
  have dcw : IntKind.u64.wrap v = v := wrap_u64 h0 (by omega)
  have dcx : IntKind.u64.wrap (167772160 + v) = 167772160 + v := wrap_u64 (by omega) (by omega)
  refine ACalls.code hT Try.func39 rfl ?_
  simp only [Try.ntmps39, List.length_cons, List.length_nil, Nat.reduceSub, Nat.reduceAdd, List.replicate, List.cons_append, List.nil_append]
  repeat (first | (with_reducible first | refine AW.seq ?_ | refine AW.block ?_ | refine AW.skip ?_ | refine AW.ret ?_ | refine AW.exit ?_ | refine AW.reg hT ?_) | ((with_reducible refine AW.cond_true ?_ ?_); · rfl) | ((with_reducible refine AW.cond_false ?_ ?_); · rfl) | simp (maxSteps := 3000000) (maxDischargeDepth := 12) only [seval,push_cast,appendX,Try.results39,eP,dcw,dcx])
  repeat (first | exact Ext.refl _ _ | assumption | refine Ext.push ?_ _ | ((refine Ext.set ?_ ?_ _); rotate_left; · (simp (maxSteps := 3000000) (maxDischargeDepth := 12) only [push_cast, appendX, Nat.reduceAdd, Nat.reduceEqDiff, Nat.reduceLT, Nat.reduceLeDiff, reduceIte, reduceCtorEq, dcw, dcx])) | ((refine Ext.then1 (by assumption) ?_ ?_); rotate_left; · (intro p hp _; first | assumption | exact List.mem_cons_of_mem _ hp | (cases hp; done) | (simp at hp; subst hp; simp))))
theorem flat_len : ∀ ps : List (Nat × Int), (∀ p ∈ ps, pOk p) → (ps.flatMap pD).length ≤ 8 * ps.length
  | [], _ => by simp
  | p :: ps, h => by
    have h1 := flat_len ps (fun q hq => h q (List.mem_cons_of_mem _ hq))
    have h2 := (h p (by simp)).1
    rw [List.flatMap_cons, List.length_append, pD, digits_length, List.length_cons]; omega
def ldI (ps : List (Nat × Int)) (σ0 : Heap) (m : Nat) (ts : List DV) (σ : Heap) : Prop := ∃ i d, m = ps.length + 1 - i ∧ i ≤ ps.length ∧ Hold σ d 5 (bytesD ((ps.take i).flatMap pD)) ∧ (∀ q ∈ tOf d, σ0.n ≤ q) ∧ Ext [] σ0 σ ∧ TellsL ts (.imm (ps.map eP) :: .any :: .any :: d :: .sc (.int .i64 i) :: .any :: .any :: .any :: .any :: .any :: .any :: .any :: .any :: .any :: .any :: .any :: .any :: .any :: .any :: .any :: .any :: .any :: .any :: .any :: .any :: [])
theorem laid_ok (σ : Heap) (ps : List (Nat × Int)) (hp : ∀ p ∈ ps, pOk p) (hl : ps.length ≤ 1000) : ACalls Try.prog 38 [.imm (ps.map eP)] σ (fun y σ' => y = .imm (bytesD (ps.flatMap pD)) ∧ Ext [] σ σ') := by
  refine ACalls.toImmH (e := 5) ?_
  have del : (ps.map eP).length = ps.length := List.length_map ..
  refine ACalls.code hT Try.func38 rfl ?_
  simp only [Try.ntmps38, List.length_cons, List.length_nil, Nat.reduceSub, Nat.reduceAdd, List.replicate, List.cons_append, List.nil_append]
  repeat (first | (with_reducible first | refine AW.seq ?_ | refine AW.block ?_ | refine AW.skip ?_ | refine AW.ret ?_ | refine AW.exit ?_ | refine AW.reg hT ?_) | ((with_reducible refine AW.cond_true ?_ ?_); · rfl) | ((with_reducible refine AW.cond_false ?_ ?_); · rfl) | simp (maxSteps := 3000000) (maxDischargeDepth := 12) only [seval,push_cast,appendX,Try.results38,del])
  refine AW.loop (ldI ps σ) (m := ps.length + 1) ⟨0, _, rfl, Nat.zero_le _, Hold.nil _ _, by simp [tOf], Ext.refl _ _, by (simp only [push_cast, TellsL, tells_any, tells_refl])⟩ ?_
  rintro m ts σ3 ⟨i, d, rfl, hi, hh, hd, xt3, hts⟩
  refine AW.told hts ?_
  clear hts
  have dncl := hh.cells
  have dnlf := hh.leaf
  by_cases hlt : i < ps.length
  · have dci : decide ((i : Int) < (ps.length : Int)) = true := decide_eq_true (by omega)
    have dci2 : ((i : Int) < (ps.length : Int)) = True := by simp; omega
    have dci0 : ((0 : Int) ≤ (i : Int)) = True := by simp
    have dcw : IntKind.i64.wrap ((i : Int) + 1) = (i : Int) + 1 := wrap_i64 (by omega) (by omega)
    have hic : (((i + 1 : Nat)) : Int) = (i : Int) + 1 := by omega
    have hpi := hp ps[i] (List.getElem_mem hlt)
    have htk : (ps.take (i + 1)).flatMap pD = (ps.take i).flatMap pD ++ pD ps[i] := by rw [List.take_succ_eq_append_getElem hlt, List.flatMap_append, List.flatMap_cons, List.flatMap_nil, List.append_nil]
    have dcel : (ps.map eP)[i]? = some [.sc (.int .i64 ps[i].1), .sc (.int .u64 ps[i].2)] := by rw [List.getElem?_map, List.getElem?_eq_getElem hlt]; rfl
    have hlen : ((ps.take i).flatMap pD).length ≤ 8000 := by
      have := flat_len (ps.take i) (fun q hq => hp q (List.mem_of_mem_take hq))
      simp at this ⊢; omega
    generalize hpe : ps[i] = pr at hpi htk dcel
    obtain ⟨n, u⟩ := pr
    repeat (first | (with_reducible first | refine AW.seq ?_ | refine AW.block ?_ | refine AW.skip ?_ | refine AW.ret ?_ | refine AW.exit ?_ | refine AW.reg hT ?_) | (with_reducible refine AW.drawn (id := 5) hT [0,1,2,3,4,5,6,7,8,9,10,11,12,13] [[],[],[],[1,2],[1,2,3],[1,2,3,4],[],[],[6,7],[6,7,8],[6,7,8,9],[1,2,3,4,5,6,7,8,9,10],[0,1,2,3,4,5,6,7,8,9,10,11],[0,1,2,3,4,5,6,7,8,9,10,11,12]] mix (by kernel_rfl) ?_) | ((with_reducible show DLeft _ _ _ _ (_ :: _) _ _ _ _); (with_reducible apply DLeft.step hT); (case hoi => ((simp only [List.getElem?_toArray,List.getElem?_cons_zero,List.getElem?_cons_succ]); with_reducible rfl)); (case hg => rfl); (case hk => rfl); (case hr => ((try simp (maxSteps := 3000000) (maxDischargeDepth := 12) only [seval,push_cast,appendX,Try.results38,del,xt3.2,xt3.ltT,xt3.leT,↓dncl,↓dnlf,dci,dci2,dci0,dcw,dcel]); with_reducible rfl))) | ((with_reducible refine AW.cond_true ?_ ?_); · rfl) | ((with_reducible refine AW.cond_false ?_ ?_); · rfl) | simp (maxSteps := 3000000) (maxDischargeDepth := 12) only [seval,push_cast,appendX,Try.results38,del,xt3.2,xt3.ltT,xt3.leT,↓dncl,↓dnlf,dci,dci2,dci0,dcw,dcel])
    ((apply DLeft.call (f := 47) (first := []) (cap := [])); (case hoi => ((simp only [List.getElem?_toArray, List.getElem?_cons_zero, List.getElem?_cons_succ]); with_reducible rfl)); (case hg => rfl); (case ho => rfl); (case hc => rfl); (case hf => exact fn47); (case has => rfl)); refine ACalls.mono (digits_ok _ n u hpi.1 hpi.2.1 hpi.2.2) ?_
    rintro y σ4 ⟨rfl, xt4⟩
    have hh4 := hh.frame xt4 (by simp)
    obtain ⟨d', σ5, dnapp, hh5, hd5, xt5, _⟩ := hh4.appM (σ0 := σ) (ty := 30) (x := .imm (bytesD (digits n u))) (xs := bytesD (digits n u)) hd (xt3.trans xt4) rfl rfl (by decide) rfl (bytes_all _) (by rw [bytesD_length, bytesD_length, digits_length]; have h9 := hpi.1; have h8 := hlen; generalize ((ps.take i).flatMap pD).length = z at h8 ⊢; simp only at h9 ⊢; omega)
    have dncl5 := hh5.cells
    have dnlf5 := hh5.leaf
    repeat (first | (with_reducible first | refine AW.seq ?_ | refine AW.block ?_ | refine AW.skip ?_ | refine AW.ret ?_ | refine AW.exit ?_ | refine AW.reg hT ?_) | (with_reducible refine AW.drawn (id := 5) hT [0,1,2,3,4,5,6,7,8,9,10,11,12,13] [[],[],[],[1,2],[1,2,3],[1,2,3,4],[],[],[6,7],[6,7,8],[6,7,8,9],[1,2,3,4,5,6,7,8,9,10],[0,1,2,3,4,5,6,7,8,9,10,11],[0,1,2,3,4,5,6,7,8,9,10,11,12]] mix (by kernel_rfl) ?_) | ((with_reducible show DLeft _ _ _ _ (_ :: _) _ _ _ _); (with_reducible apply DLeft.step hT); (case hoi => ((simp only [List.getElem?_toArray,List.getElem?_cons_zero,List.getElem?_cons_succ]); with_reducible rfl)); (case hg => rfl); (case hk => rfl); (case hr => ((try simp (maxSteps := 3000000) (maxDischargeDepth := 12) only [seval,push_cast,appendX,Try.results38,del,xt3.2,xt3.ltT,xt3.leT,↓dncl,↓dnlf,dci,dci2,dci0,dcw,dcel,xt4.2,xt4.ltT,xt4.leT,↓dnapp,xt5.2,xt5.ltT,xt5.leT,↓dncl5,↓dnlf5]); with_reducible rfl))) | ((with_reducible refine AW.cond_true ?_ ?_); · rfl) | ((with_reducible refine AW.cond_false ?_ ?_); · rfl) | simp (maxSteps := 3000000) (maxDischargeDepth := 12) only [seval,push_cast,appendX,Try.results38,del,xt3.2,xt3.ltT,xt3.leT,↓dncl,↓dnlf,dci,dci2,dci0,dcw,dcel,xt4.2,xt4.ltT,xt4.leT,↓dnapp,xt5.2,xt5.ltT,xt5.leT,↓dncl5,↓dnlf5])
    rw [← bytesD_append] at hh5
    exact ⟨ps.length + 1 - (i + 1), by omega, i + 1, d', rfl, hlt, by rw [htk]; exact hh5, hd5, xt5, by (simp only [push_cast, TellsL, tells_any, tells_refl, hic])⟩
  · have dci : decide ((i : Int) < (ps.length : Int)) = false := decide_eq_false (by omega)
    have e : ps.take i = ps := List.take_of_length_le (by omega)
    rw [e] at hh
    repeat (first | (with_reducible first | refine AW.seq ?_ | refine AW.block ?_ | refine AW.skip ?_ | refine AW.ret ?_ | refine AW.exit ?_ | refine AW.reg hT ?_) | ((with_reducible refine AW.cond_true ?_ ?_); · rfl) | ((with_reducible refine AW.cond_false ?_ ?_); · rfl) | simp (maxSteps := 3000000) (maxDischargeDepth := 12) only [seval,push_cast,appendX,Try.results38,del,xt3.2,xt3.ltT,xt3.leT,↓dncl,↓dnlf,dci])
    exact ⟨hh, hd, xt3⟩
def hpI (L : List Int) (σ0 : Heap) (m : Nat) (ts : List DV) (σ : Heap) : Prop := ∃ i d, m = L.length + 1 - i ∧ i ≤ L.length ∧ Hold σ d 91 (((L.take i).flatMap hopP).map eP) ∧ (∀ q ∈ tOf d, σ0.n ≤ q) ∧ Ext [] σ0 σ ∧ TellsL ts (.imm (L.map eI) :: .any :: .any :: d :: .sc (.int .i64 i) :: .any :: .any :: .any :: .any :: .any :: .any :: .any :: .any :: .any :: .any :: .any :: .any :: .any :: .any :: .any :: .any :: .any :: [])
theorem hops_len3 : ∀ L : List Int, (L.flatMap hopP).length = 3 * L.length
  | [] => rfl
  | v :: L => by rw [List.flatMap_cons, List.length_append, hops_len3 L]; simp [hopP]; omega
theorem rhops_ok (σ : Heap) (L : List Int) (hv : ∀ v ∈ L, 0 ≤ v ∧ v < 16) (hl : L.length ≤ 16) : ACalls Try.prog 41 [.imm (L.map eI)] σ (fun y σ' => y = .imm ((L.flatMap hopP).map eP) ∧ Ext [] σ σ') := by
  refine ACalls.toImmH (e := 91) ?_
  have del : (L.map eI).length = L.length := List.length_map ..
  refine ACalls.code hT Try.func41 rfl ?_
  simp only [Try.ntmps41, List.length_cons, List.length_nil, Nat.reduceSub, Nat.reduceAdd, List.replicate, List.cons_append, List.nil_append]
  repeat (first | (with_reducible first | refine AW.seq ?_ | refine AW.block ?_ | refine AW.skip ?_ | refine AW.ret ?_ | refine AW.exit ?_ | refine AW.reg hT ?_) | ((with_reducible refine AW.cond_true ?_ ?_); · rfl) | ((with_reducible refine AW.cond_false ?_ ?_); · rfl) | simp (maxSteps := 3000000) (maxDischargeDepth := 12) only [seval,push_cast,appendX,Try.results41,del])
  refine AW.loop (hpI L σ) (m := L.length + 1) ⟨0, _, rfl, Nat.zero_le _, Hold.nil _ _, by simp [tOf], Ext.refl _ _, by (simp only [push_cast, TellsL, tells_any, tells_refl])⟩ ?_
  rintro m ts σ3 ⟨i, d, rfl, hi, hh, hd, xt3, hts⟩
  refine AW.told hts ?_
  clear hts
  have dncl := hh.cells
  have dnlf := hh.leaf
  by_cases hlt : i < L.length
  · have dci : decide ((i : Int) < (L.length : Int)) = true := decide_eq_true (by omega)
    have dci2 : ((i : Int) < (L.length : Int)) = True := by simp; omega
    have dci0 : ((0 : Int) ≤ (i : Int)) = True := by simp
    have dcw : IntKind.i64.wrap ((i : Int) + 1) = (i : Int) + 1 := wrap_i64 (by omega) (by omega)
    have hic : (((i + 1 : Nat)) : Int) = (i : Int) + 1 := by omega
    have hvi := hv L[i] (List.getElem_mem hlt)
    have htk : (L.take (i + 1)).flatMap hopP = (L.take i).flatMap hopP ++ hopP L[i] := by rw [List.take_succ_eq_append_getElem hlt, List.flatMap_append, List.flatMap_cons, List.flatMap_nil, List.append_nil]
    have dcel : (L.map eI)[i]? = some [.sc (.int .i64 L[i])] := by rw [List.getElem?_map, List.getElem?_eq_getElem hlt]; rfl
    have hlen : ((L.take i).flatMap hopP).length ≤ 48 := by rw [hops_len3]; simp; omega
    generalize L[i] = v at hvi htk dcel
    repeat (first | (with_reducible first | refine AW.seq ?_ | refine AW.block ?_ | refine AW.skip ?_ | refine AW.ret ?_ | refine AW.exit ?_ | refine AW.reg hT ?_) | (with_reducible refine AW.drawn (id := 5) hT [0,2,3,4,5,1,6,7,8,9,10] [[],[],[],[],[2,3],[2,3,4],[1,2,3,4,5],[1,2,3,4,5,6],[1,2,3,4,5,6,7],[0,1,2,3,4,5,6,7,8],[0,1,2,3,4,5,6,7,8,9]] mix (by kernel_rfl) ?_) | ((with_reducible show DLeft _ _ _ _ (_ :: _) _ _ _ _); (with_reducible apply DLeft.step hT); (case hoi => ((simp only [List.getElem?_toArray,List.getElem?_cons_zero,List.getElem?_cons_succ]); with_reducible rfl)); (case hg => rfl); (case hk => rfl); (case hr => ((try simp (maxSteps := 3000000) (maxDischargeDepth := 12) only [seval,push_cast,appendX,Try.results41,del,xt3.2,xt3.ltT,xt3.leT,↓dncl,↓dnlf,dci,dci2,dci0,dcw,dcel]); with_reducible rfl))) | ((with_reducible refine AW.cond_true ?_ ?_); · rfl) | ((with_reducible refine AW.cond_false ?_ ?_); · rfl) | simp (maxSteps := 3000000) (maxDischargeDepth := 12) only [seval,push_cast,appendX,Try.results41,del,xt3.2,xt3.ltT,xt3.leT,↓dncl,↓dnlf,dci,dci2,dci0,dcw,dcel])
    ((apply DLeft.call (f := 40) (first := []) (cap := [])); (case hoi => ((simp only [List.getElem?_toArray, List.getElem?_cons_zero, List.getElem?_cons_succ]); with_reducible rfl)); (case hg => rfl); (case ho => rfl); (case hc => rfl); (case hf => exact fn40); (case has => rfl)); refine ACalls.mono (rnum_ok _ 2 264 (by omega) (by omega)) ?_
    rintro y σ4 ⟨rfl, xt4⟩
    repeat (first | (with_reducible first | refine AW.seq ?_ | refine AW.block ?_ | refine AW.skip ?_ | refine AW.ret ?_ | refine AW.exit ?_ | refine AW.reg hT ?_) | (with_reducible refine AW.drawn (id := 5) hT [0,2,3,4,5,1,6,7,8,9,10] [[],[],[],[],[2,3],[2,3,4],[1,2,3,4,5],[1,2,3,4,5,6],[1,2,3,4,5,6,7],[0,1,2,3,4,5,6,7,8],[0,1,2,3,4,5,6,7,8,9]] mix (by kernel_rfl) ?_) | ((with_reducible show DLeft _ _ _ _ (_ :: _) _ _ _ _); (with_reducible apply DLeft.step hT); (case hoi => ((simp only [List.getElem?_toArray,List.getElem?_cons_zero,List.getElem?_cons_succ]); with_reducible rfl)); (case hg => rfl); (case hk => rfl); (case hr => ((try simp (maxSteps := 3000000) (maxDischargeDepth := 12) only [seval,push_cast,appendX,Try.results41,del,eP,xt3.2,xt3.ltT,xt3.leT,↓dncl,↓dnlf,dci,dci2,dci0,dcw,dcel,xt4.2,xt4.ltT,xt4.leT]); with_reducible rfl))) | ((with_reducible refine AW.cond_true ?_ ?_); · rfl) | ((with_reducible refine AW.cond_false ?_ ?_); · rfl) | simp (maxSteps := 3000000) (maxDischargeDepth := 12) only [seval,push_cast,appendX,Try.results41,del,eP,xt3.2,xt3.ltT,xt3.leT,↓dncl,↓dnlf,dci,dci2,dci0,dcw,dcel,xt4.2,xt4.ltT,xt4.leT])
    ((apply DLeft.call (f := 39) (first := []) (cap := [])); (case hoi => ((simp only [List.getElem?_toArray, List.getElem?_cons_zero, List.getElem?_cons_succ]); with_reducible rfl)); (case hg => rfl); (case ho => rfl); (case hc => rfl); (case hf => exact fn39); (case has => rfl)); refine ACalls.mono (raddr_ok _ v hvi.1 hvi.2) ?_
    rintro y σ5 ⟨rfl, xt5⟩
    repeat (first | (with_reducible first | refine AW.seq ?_ | refine AW.block ?_ | refine AW.skip ?_ | refine AW.ret ?_ | refine AW.exit ?_ | refine AW.reg hT ?_) | (with_reducible refine AW.drawn (id := 5) hT [0,2,3,4,5,1,6,7,8,9,10] [[],[],[],[],[2,3],[2,3,4],[1,2,3,4,5],[1,2,3,4,5,6],[1,2,3,4,5,6,7],[0,1,2,3,4,5,6,7,8],[0,1,2,3,4,5,6,7,8,9]] mix (by kernel_rfl) ?_) | ((with_reducible show DLeft _ _ _ _ (_ :: _) _ _ _ _); (with_reducible apply DLeft.step hT); (case hoi => ((simp only [List.getElem?_toArray,List.getElem?_cons_zero,List.getElem?_cons_succ]); with_reducible rfl)); (case hg => rfl); (case hk => rfl); (case hr => ((try simp (maxSteps := 3000000) (maxDischargeDepth := 12) only [seval,push_cast,appendX,Try.results41,del,eP,xt3.2,xt3.ltT,xt3.leT,↓dncl,↓dnlf,dci,dci2,dci0,dcw,dcel,xt4.2,xt4.ltT,xt4.leT,xt5.2,xt5.ltT,xt5.leT]); with_reducible rfl))) | ((with_reducible refine AW.cond_true ?_ ?_); · rfl) | ((with_reducible refine AW.cond_false ?_ ?_); · rfl) | simp (maxSteps := 3000000) (maxDischargeDepth := 12) only [seval,push_cast,appendX,Try.results41,del,eP,xt3.2,xt3.ltT,xt3.leT,↓dncl,↓dnlf,dci,dci2,dci0,dcw,dcel,xt4.2,xt4.ltT,xt4.leT,xt5.2,xt5.ltT,xt5.leT])
    ((apply DLeft.call (f := 40) (first := []) (cap := [])); (case hoi => ((simp only [List.getElem?_toArray, List.getElem?_cons_zero, List.getElem?_cons_succ]); with_reducible rfl)); (case hg => rfl); (case ho => rfl); (case hc => rfl); (case hf => exact fn40); (case has => rfl)); refine ACalls.mono (rnum_ok _ 2 8192 (by omega) (by omega)) ?_
    rintro y σ6 ⟨rfl, xt6⟩
    have xt36 := (xt4.trans xt5).trans xt6
    have hh6 := hh.frame xt36 (by simp)
    obtain ⟨d', σ7, happ, hh7, hd7, xt7, _⟩ := Hold.appM (σ := σ6.push ⟨(hopP v).map eP, 91, true⟩) (σ0 := σ) (ty := 94) (x := .sl σ6.n 0 3 3) (xs := (hopP v).map eP) (hh6.frame (X := []) ((Ext.refl _ _).push _) (by simp)) hd ((xt3.trans xt36).push _) rfl rfl (by decide) (by simp [sliceD, getO, hopP]) (by simp [hopP, eP]) (by rw [List.length_map]; have h8 := hlen; generalize ((L.take i).flatMap hopP).length = z at h8 ⊢; simp [hopP]; omega)
    have dncl7 := hh7.cells
    have dnlf7 := hh7.leaf
    have dnapp : appendX T (σ6.push ⟨[[.sc (.int .i64 2), .sc (.int .u64 264)], [.sc (.int .i64 4), .sc (.int .u64 (167772160 + v))], [.sc (.int .i64 2), .sc (.int .u64 8192)]], 91, true⟩) 94 d (.sl σ6.n 0 3 3) = some (d', σ7) := happ
    repeat (first | (with_reducible first | refine AW.seq ?_ | refine AW.block ?_ | refine AW.skip ?_ | refine AW.ret ?_ | refine AW.exit ?_ | refine AW.reg hT ?_) | (with_reducible refine AW.drawn (id := 5) hT [0,2,3,4,5,1,6,7,8,9,10] [[],[],[],[],[2,3],[2,3,4],[1,2,3,4,5],[1,2,3,4,5,6],[1,2,3,4,5,6,7],[0,1,2,3,4,5,6,7,8],[0,1,2,3,4,5,6,7,8,9]] mix (by kernel_rfl) ?_) | ((with_reducible show DLeft _ _ _ _ (_ :: _) _ _ _ _); (with_reducible apply DLeft.step hT); (case hoi => ((simp only [List.getElem?_toArray,List.getElem?_cons_zero,List.getElem?_cons_succ]); with_reducible rfl)); (case hg => rfl); (case hk => rfl); (case hr => ((try simp (maxSteps := 3000000) (maxDischargeDepth := 12) only [seval,push_cast,appendX,Try.results41,del,eP,xt3.2,xt3.ltT,xt3.leT,↓dncl,↓dnlf,dci,dci2,dci0,dcw,dcel,xt4.2,xt4.ltT,xt4.leT,xt5.2,xt5.ltT,xt5.leT,xt6.2,xt6.ltT,xt6.leT,xt36.2,xt36.ltT,xt36.leT,xt7.2,xt7.ltT,xt7.leT,↓dncl7,↓dnlf7,↓dnapp]); with_reducible rfl))) | ((with_reducible refine AW.cond_true ?_ ?_); · rfl) | ((with_reducible refine AW.cond_false ?_ ?_); · rfl) | simp (maxSteps := 3000000) (maxDischargeDepth := 12) only [seval,push_cast,appendX,Try.results41,del,eP,xt3.2,xt3.ltT,xt3.leT,↓dncl,↓dnlf,dci,dci2,dci0,dcw,dcel,xt4.2,xt4.ltT,xt4.leT,xt5.2,xt5.ltT,xt5.leT,xt6.2,xt6.ltT,xt6.leT,xt36.2,xt36.ltT,xt36.leT,xt7.2,xt7.ltT,xt7.leT,↓dncl7,↓dnlf7,↓dnapp])
    rw [← List.map_append] at hh7
    exact ⟨L.length + 1 - (i + 1), by omega, i + 1, d', rfl, hlt, by rw [htk]; exact hh7, hd7, xt7, by (simp only [push_cast, TellsL, tells_any, tells_refl, hic])⟩
  · have dci : decide ((i : Int) < (L.length : Int)) = false := decide_eq_false (by omega)
    have e : L.take i = L := List.take_of_length_le (by omega)
    rw [e] at hh
    repeat (first | (with_reducible first | refine AW.seq ?_ | refine AW.block ?_ | refine AW.skip ?_ | refine AW.ret ?_ | refine AW.exit ?_ | refine AW.reg hT ?_) | ((with_reducible refine AW.cond_true ?_ ?_); · rfl) | ((with_reducible refine AW.cond_false ?_ ?_); · rfl) | simp (maxSteps := 3000000) (maxDischargeDepth := 12) only [seval,push_cast,appendX,Try.results41,del,xt3.2,xt3.ltT,xt3.leT,↓dncl,↓dnlf,dci])
    exact ⟨hh, hd, xt3⟩
end Go.Proofs.Ytdibcgcildcjnaa.Cm
