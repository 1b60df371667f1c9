/- Whether a number is among others; graph.Find. -/
import Derived.Test.YtpigelcckiejiaaGR0
namespace Go.Proofs.Ytpigelcckiejiaa.Cm
open Go.RowKit
set_option linter.unusedVariables false
set_option linter.unusedSimpArgs false
set_option maxRecDepth 20000
set_option maxHeartbeats 8000000
def eZ (n : Int) : List DV := [.sc (.int .i64 n)]
def hsI (r : List Int) (x : Int) (σ0 : Heap) (m : Nat) (ts : List DV) (σ : Heap) : Prop := ∃ i, m = r.length + 1 - i ∧ i ≤ r.length ∧ x ∉ r.take i ∧ σ = σ0 ∧ TellsL ts (.imm (r.map eZ) :: .sc (.int .i64 x) :: .any :: .any :: .any :: .sc (.int .i64 i) :: .any :: .any :: .any :: .any :: .any :: .any :: .any :: .any :: .any :: .any :: .any :: .any :: [])
theorem notin_next {r : List Int} {x : Int} {i : Nat} (hi : i < r.length) (h : x ∉ r.take i) (hx : r[i] ≠ x) : x ∉ r.take (i + 1) := by
  rw [List.take_add_one, List.getElem?_eq_getElem hi]
  intro hm
  rcases List.mem_append.1 hm with hm | hm
  · exact h hm
  · simp at hm; exact hx hm.symm
theorem has_ok (σ : Heap) (r : List Int) (x : Int) (hl : r.length ≤ 1000000) : ACalls Try.prog 24 [.imm (r.map eZ), .sc (.int .i64 x)] σ (fun y σ' => y = .sc (.bool (decide (x ∈ r))) ∧ σ' = σ) := by
  have dcml : (r.map eZ).length = r.length := by simp
  refine ACalls.code hT Try.func24 rfl ?_
  simp only [Try.ntmps24, List.length_cons, List.length_nil, Nat.reduceSub, Nat.reduceAdd, List.replicate, List.cons_append, List.nil_append]
  repeat (first | (with_reducible refine AW.seq ?_) | (with_reducible refine AW.block ?_) | (with_reducible refine AW.skip ?_) | (with_reducible refine AW.ret ?_) | (with_reducible refine AW.exit ?_) | (with_reducible refine AW.reg hT ?_) | ((with_reducible refine AW.cond_true ?_ ?_); · rfl) | ((with_reducible refine AW.cond_false ?_ ?_); · rfl) | simp (maxSteps := 3000000) (maxDischargeDepth := 12) only [push_cast,appendX,reduceIte,reduceCtorEq,Nat.reduceSub,Nat.reduceAdd,Nat.reduceMul,Nat.reduceLT,Nat.reduceLeDiff,Nat.reduceEqDiff,Nat.reduceBEq,Int.reduceToNat,Int.reduceLT,Int.reduceLE,Int.reduceEq,Int.reduceNeg,Try.results24,dcml])
  refine AW.loop (hsI r x σ) (m := r.length + 1) ⟨0, rfl, Nat.zero_le _, by simp, rfl, by (simp only [push_cast, TellsL, tells_any, tells_refl])⟩ ?_
  rintro m ts σ3 ⟨i, rfl, hil, hno, rfl, hts⟩
  refine AW.told hts ?_
  clear hts
  by_cases hi : i < r.length
  · have dci : decide ((i : Int) < (r.length : Int)) = true := by simp; omega
    have dci2 : ((i : Int) < (r.length : Int)) = True := by simp; omega
    have dci0 : ((0 : Int) ≤ (i : Int)) = True := by simp
    have dcel : (r.map eZ)[i]? = some [.sc (.int .i64 r[i])] := by rw [List.getElem?_map, List.getElem?_eq_getElem hi]; rfl
    have dcw : IntKind.i64.wrap ((i : Int) + 1) = (i : Int) + 1 := wrap_i64 (by omega) (by omega)
    by_cases hx : r[i] = x
    · have dcx : (r[i] == x) = true := by simpa using hx
      have hmem : x ∈ r := by rw [← hx]; exact List.getElem_mem _
      have dch : decide (x ∈ r) = true := decide_eq_true hmem
      repeat (first | (with_reducible refine AW.seq ?_) | (with_reducible refine AW.block ?_) | (with_reducible refine AW.skip ?_) | (with_reducible refine AW.ret ?_) | (with_reducible refine AW.exit ?_) | (with_reducible refine AW.reg hT ?_) | ((with_reducible refine AW.cond_true ?_ ?_); · rfl) | ((with_reducible refine AW.cond_false ?_ ?_); · rfl) | simp (maxSteps := 3000000) (maxDischargeDepth := 12) only [push_cast,appendX,reduceIte,reduceCtorEq,Nat.reduceSub,Nat.reduceAdd,Nat.reduceMul,Nat.reduceLT,Nat.reduceLeDiff,Nat.reduceEqDiff,Nat.reduceBEq,Int.reduceToNat,Int.reduceLT,Int.reduceLE,Int.reduceEq,Int.reduceNeg,Try.results24,dcml,dci,dci2,dci0,dcel,dcw,dcx,dch])
    · have dcx : (r[i] == x) = false := by simpa using hx
      have hno' := notin_next hi hno hx
      repeat (first | (with_reducible refine AW.seq ?_) | (with_reducible refine AW.block ?_) | (with_reducible refine AW.skip ?_) | (with_reducible refine AW.ret ?_) | (with_reducible refine AW.exit ?_) | (with_reducible refine AW.reg hT ?_) | ((with_reducible refine AW.cond_true ?_ ?_); · rfl) | ((with_reducible refine AW.cond_false ?_ ?_); · rfl) | simp (maxSteps := 3000000) (maxDischargeDepth := 12) only [push_cast,appendX,reduceIte,reduceCtorEq,Nat.reduceSub,Nat.reduceAdd,Nat.reduceMul,Nat.reduceLT,Nat.reduceLeDiff,Nat.reduceEqDiff,Nat.reduceBEq,Int.reduceToNat,Int.reduceLT,Int.reduceLE,Int.reduceEq,Int.reduceNeg,Try.results24,dcml,dci,dci2,dci0,dcel,dcw,dcx])
      exact ⟨r.length + 1 - (i + 1), by omega, i + 1, rfl, hi, hno', rfl, by (simp only [push_cast, TellsL, tells_any, tells_refl])⟩
  · have dci : decide ((i : Int) < (r.length : Int)) = false := by simp; omega
    rw [List.take_of_length_le (by omega)] at hno
    have dch : decide (x ∈ r) = false := decide_eq_false hno
    repeat (first | (with_reducible refine AW.seq ?_) | (with_reducible refine AW.block ?_) | (with_reducible refine AW.skip ?_) | (with_reducible refine AW.ret ?_) | (with_reducible refine AW.exit ?_) | (with_reducible refine AW.reg hT ?_) | ((with_reducible refine AW.cond_true ?_ ?_); · rfl) | ((with_reducible refine AW.cond_false ?_ ?_); · rfl) | simp (maxSteps := 3000000) (maxDischargeDepth := 12) only [push_cast,appendX,reduceIte,reduceCtorEq,Nat.reduceSub,Nat.reduceAdd,Nat.reduceMul,Nat.reduceLT,Nat.reduceLeDiff,Nat.reduceEqDiff,Nat.reduceBEq,Int.reduceToNat,Int.reduceLT,Int.reduceLE,Int.reduceEq,Int.reduceNeg,Try.results24,dcml,dci,dch])
def ixI (r : List Int) (x : Int) (σ0 : Heap) (m : Nat) (ts : List DV) (σ : Heap) : Prop := ∃ i, m = r.length + 1 - i ∧ i ≤ r.length ∧ x ∉ r.take i ∧ σ = σ0 ∧ TellsL ts (.imm (r.map eZ) :: .sc (.int .i64 x) :: .any :: .any :: .any :: .any :: .any :: .sc (.int .i64 r.length) :: .sc (.int .i64 i) :: .any :: .any :: .any :: .any :: .any :: .any :: .any :: .any :: .any :: .any :: [])
theorem index_ok (σ : Heap) (r : List Int) (x : Int) (hl : r.length ≤ 1000000) : ACalls Try.prog 35 [.imm (r.map eZ), .sc (.int .i64 x)] σ (fun y σ' => (∃ v : Int, y = .sc (.int .i64 v) ∧ (0 ≤ v ↔ x ∈ r)) ∧ σ' = σ) := by
  have dcml : (r.map eZ).length = r.length := by simp
  refine ACalls.code hT Try.func35 rfl ?_
  simp only [Try.ntmps35, List.length_cons, List.length_nil, Nat.reduceSub, Nat.reduceAdd, List.replicate, List.cons_append, List.nil_append]
  repeat (first | (with_reducible refine AW.seq ?_) | (with_reducible refine AW.block ?_) | (with_reducible refine AW.skip ?_) | (with_reducible refine AW.ret ?_) | (with_reducible refine AW.exit ?_) | (with_reducible refine AW.reg hT ?_) | ((with_reducible refine AW.cond_true ?_ ?_); · rfl) | ((with_reducible refine AW.cond_false ?_ ?_); · rfl) | simp (maxSteps := 3000000) (maxDischargeDepth := 12) only [push_cast,appendX,reduceIte,reduceCtorEq,Nat.reduceSub,Nat.reduceAdd,Nat.reduceMul,Nat.reduceLT,Nat.reduceLeDiff,Nat.reduceEqDiff,Nat.reduceBEq,Int.reduceToNat,Int.reduceLT,Int.reduceLE,Int.reduceEq,Int.reduceNeg,Try.results35,dcml])
  refine AW.loop (ixI r x σ) (m := r.length + 1) ⟨0, rfl, Nat.zero_le _, by simp, rfl, by (simp only [push_cast, TellsL, tells_any, tells_refl])⟩ ?_
  rintro m ts σ3 ⟨i, rfl, hil, hno, rfl, hts⟩
  refine AW.told hts ?_
  clear hts
  by_cases hi : i < r.length
  · have dci : decide ((i : Int) < (r.length : Int)) = true := by simp; omega
    have dci2 : ((i : Int) < (r.length : Int)) = True := by simp; omega
    have dci0 : ((0 : Int) ≤ (i : Int)) = True := by simp
    have dcel : (r.map eZ)[i]? = some [.sc (.int .i64 r[i])] := by rw [List.getElem?_map, List.getElem?_eq_getElem hi]; rfl
    have dcw : IntKind.i64.wrap ((i : Int) + 1) = (i : Int) + 1 := wrap_i64 (by omega) (by omega)
    by_cases hx : r[i] = x
    · have dcx : (x == r[i]) = true := by simpa using hx.symm
      have hmem : x ∈ r := by rw [← hx]; exact List.getElem_mem _
      repeat (first | (with_reducible refine AW.seq ?_) | (with_reducible refine AW.block ?_) | (with_reducible refine AW.skip ?_) | (with_reducible refine AW.ret ?_) | (with_reducible refine AW.exit ?_) | (with_reducible refine AW.reg hT ?_) | ((with_reducible refine AW.cond_true ?_ ?_); · rfl) | ((with_reducible refine AW.cond_false ?_ ?_); · rfl) | simp (maxSteps := 3000000) (maxDischargeDepth := 12) only [push_cast,appendX,reduceIte,reduceCtorEq,Nat.reduceSub,Nat.reduceAdd,Nat.reduceMul,Nat.reduceLT,Nat.reduceLeDiff,Nat.reduceEqDiff,Nat.reduceBEq,Int.reduceToNat,Int.reduceLT,Int.reduceLE,Int.reduceEq,Int.reduceNeg,Try.results35,dcml,dci,dci2,dci0,dcel,dcw,dcx])
      exact ⟨(i : Int), rfl, by simp [hmem]⟩
    · have dcx : (x == r[i]) = false := by simpa using Ne.symm hx
      have hno' := notin_next hi hno hx
      repeat (first | (with_reducible refine AW.seq ?_) | (with_reducible refine AW.block ?_) | (with_reducible refine AW.skip ?_) | (with_reducible refine AW.ret ?_) | (with_reducible refine AW.exit ?_) | (with_reducible refine AW.reg hT ?_) | ((with_reducible refine AW.cond_true ?_ ?_); · rfl) | ((with_reducible refine AW.cond_false ?_ ?_); · rfl) | simp (maxSteps := 3000000) (maxDischargeDepth := 12) only [push_cast,appendX,reduceIte,reduceCtorEq,Nat.reduceSub,Nat.reduceAdd,Nat.reduceMul,Nat.reduceLT,Nat.reduceLeDiff,Nat.reduceEqDiff,Nat.reduceBEq,Int.reduceToNat,Int.reduceLT,Int.reduceLE,Int.reduceEq,Int.reduceNeg,Try.results35,dcml,dci,dci2,dci0,dcel,dcw,dcx])
      exact ⟨r.length + 1 - (i + 1), by omega, i + 1, rfl, hi, hno', rfl, by (simp only [push_cast, TellsL, tells_any, tells_refl])⟩
  · have dci : decide ((i : Int) < (r.length : Int)) = false := by simp; omega
    rw [List.take_of_length_le (by omega)] at hno
    repeat (first | (with_reducible refine AW.seq ?_) | (with_reducible refine AW.block ?_) | (with_reducible refine AW.skip ?_) | (with_reducible refine AW.ret ?_) | (with_reducible refine AW.exit ?_) | (with_reducible refine AW.reg hT ?_) | ((with_reducible refine AW.cond_true ?_ ?_); · rfl) | ((with_reducible refine AW.cond_false ?_ ?_); · rfl) | simp (maxSteps := 3000000) (maxDischargeDepth := 12) only [push_cast,appendX,reduceIte,reduceCtorEq,Nat.reduceSub,Nat.reduceAdd,Nat.reduceMul,Nat.reduceLT,Nat.reduceLeDiff,Nat.reduceEqDiff,Nat.reduceBEq,Int.reduceToNat,Int.reduceLT,Int.reduceLE,Int.reduceEq,Int.reduceNeg,Try.results35,dcml,dci])
    exact ⟨-1, rfl, by simp [hno]⟩
theorem contains_ok (σ : Heap) (r : List Int) (x : Int) (hl : r.length ≤ 1000000) : ACalls Try.prog 25 [.imm (r.map eZ), .sc (.int .i64 x)] σ (fun y σ' => y = .sc (.bool (decide (x ∈ r))) ∧ σ' = σ) := by
  refine ACalls.code hT Try.func25 rfl ?_
  simp only [Try.ntmps25, List.length_cons, List.length_nil, Nat.reduceSub, Nat.reduceAdd, List.replicate, List.cons_append, List.nil_append]
  repeat (first | (with_reducible refine AW.seq ?_) | (with_reducible refine AW.block ?_) | (with_reducible refine AW.skip ?_) | (with_reducible refine AW.ret ?_) | (with_reducible refine AW.exit ?_) | (with_reducible refine AW.reg hT ?_) | ((with_reducible refine AW.cond_true ?_ ?_); · rfl) | ((with_reducible refine AW.cond_false ?_ ?_); · rfl) | simp (maxSteps := 3000000) (maxDischargeDepth := 12) only [push_cast,appendX,reduceIte,reduceCtorEq,Nat.reduceSub,Nat.reduceAdd,Nat.reduceMul,Nat.reduceLT,Nat.reduceLeDiff,Nat.reduceEqDiff,Nat.reduceBEq,Int.reduceToNat,Int.reduceLT,Int.reduceLE,Int.reduceEq,Int.reduceNeg,Try.results25])
  refine AOpsL.call (first := []) (cap := []) hT rfl rfl rfl fn35 rfl (ACalls.mono (index_ok _ r x hl) ?_)
  rintro y s ⟨⟨v, rfl, hv⟩, rfl⟩
  have dcv : decide (0 ≤ v) = decide (x ∈ r) := decide_eq_decide.2 hv
  repeat (first | (with_reducible refine AW.seq ?_) | (with_reducible refine AW.block ?_) | (with_reducible refine AW.skip ?_) | (with_reducible refine AW.ret ?_) | (with_reducible refine AW.exit ?_) | (with_reducible refine AW.reg hT ?_) | ((with_reducible refine AW.cond_true ?_ ?_); · rfl) | ((with_reducible refine AW.cond_false ?_ ?_); · rfl) | simp (maxSteps := 3000000) (maxDischargeDepth := 12) only [push_cast,appendX,reduceIte,reduceCtorEq,Nat.reduceSub,Nat.reduceAdd,Nat.reduceMul,Nat.reduceLT,Nat.reduceLeDiff,Nat.reduceEqDiff,Nat.reduceBEq,Int.reduceToNat,Int.reduceLT,Int.reduceLE,Int.reduceEq,Int.reduceNeg,Try.results25,dcv])
theorem find1_ok (σ : Heap) {q1 q2 : Nat} (x : Lk) (a b : Int) (gt1 : σ.get q1 = some ⟨[[.sc (.int .i64 a)]], 3, true⟩) (gt2 : σ.get q2 = some ⟨[[.sc (.int .i64 b)]], 3, true⟩) : ACalls Try.prog 31 [.agg (eK x), .ptr q1 0 0 1, .ptr q2 0 0 1] σ (fun y σ' => y = .sc (.bool (decide (x.f0 = a ∧ x.f1 = b))) ∧ Ext [] σ σ') := by
  simp only [eK_eq]
  refine ACalls.code hT Try.func31 rfl ?_
  simp only [Try.ntmps31, List.length_cons, List.length_nil, Nat.reduceSub, Nat.reduceAdd, List.replicate, List.cons_append, List.nil_append]
  by_cases hA0 : x.f0 = a
  · have dcA0 : (x.f0 == a) = true := by simpa using hA0
    by_cases hA1 : x.f1 = b
    · have dcA1 : (x.f1 == b) = true := by simpa using hA1
      repeat (first | (with_reducible refine AW.seq ?_) | (with_reducible refine AW.block ?_) | (with_reducible refine AW.skip ?_) | (with_reducible refine AW.ret ?_) | (with_reducible refine AW.exit ?_) | (with_reducible refine AW.reg hT ?_) | ((with_reducible refine AW.cond_true ?_ ?_); · rfl) | ((with_reducible refine AW.cond_false ?_ ?_); · rfl) | simp (maxSteps := 3000000) (maxDischargeDepth := 12) only [push_cast,appendX,reduceIte,reduceCtorEq,Nat.reduceSub,Nat.reduceAdd,Nat.reduceMul,Nat.reduceLT,Nat.reduceLeDiff,Nat.reduceEqDiff,Nat.reduceBEq,Int.reduceToNat,Int.reduceLT,Int.reduceLE,Int.reduceEq,Int.reduceNeg,Try.results31,gt1,Heap.lt gt1,gt2,Heap.lt gt2,dcA0,dcA1])
      refine ⟨by simp [*], ?_⟩
      repeat (first | exact Ext.refl _ _ | assumption | refine Ext.push ?_ _ | ((refine Ext.set ?_ ?_ _); rotate_left; · (simp (maxSteps := 3000000) (maxDischargeDepth := 12) only [push_cast, appendX, Nat.reduceAdd, Nat.reduceEqDiff, Nat.reduceLT, Nat.reduceLeDiff, reduceIte, reduceCtorEq, gt1, Heap.lt gt1, gt2, Heap.lt gt2, dcA0, dcA1])) | ((refine Ext.then1 (by assumption) ?_ ?_); rotate_left; · (intro p hp _; first | assumption | exact List.mem_cons_of_mem _ hp | (cases hp; done) | (simp at hp; subst hp; simp))))
    · have dcA1 : (x.f1 == b) = false := by simpa using hA1
      repeat (first | (with_reducible refine AW.seq ?_) | (with_reducible refine AW.block ?_) | (with_reducible refine AW.skip ?_) | (with_reducible refine AW.ret ?_) | (with_reducible refine AW.exit ?_) | (with_reducible refine AW.reg hT ?_) | ((with_reducible refine AW.cond_true ?_ ?_); · rfl) | ((with_reducible refine AW.cond_false ?_ ?_); · rfl) | simp (maxSteps := 3000000) (maxDischargeDepth := 12) only [push_cast,appendX,reduceIte,reduceCtorEq,Nat.reduceSub,Nat.reduceAdd,Nat.reduceMul,Nat.reduceLT,Nat.reduceLeDiff,Nat.reduceEqDiff,Nat.reduceBEq,Int.reduceToNat,Int.reduceLT,Int.reduceLE,Int.reduceEq,Int.reduceNeg,Try.results31,gt1,Heap.lt gt1,gt2,Heap.lt gt2,dcA0,dcA1])
      refine ⟨by simp [*], ?_⟩
      repeat (first | exact Ext.refl _ _ | assumption | refine Ext.push ?_ _ | ((refine Ext.set ?_ ?_ _); rotate_left; · (simp (maxSteps := 3000000) (maxDischargeDepth := 12) only [push_cast, appendX, Nat.reduceAdd, Nat.reduceEqDiff, Nat.reduceLT, Nat.reduceLeDiff, reduceIte, reduceCtorEq, gt1, Heap.lt gt1, gt2, Heap.lt gt2, dcA0, dcA1])) | ((refine Ext.then1 (by assumption) ?_ ?_); rotate_left; · (intro p hp _; first | assumption | exact List.mem_cons_of_mem _ hp | (cases hp; done) | (simp at hp; subst hp; simp))))
  · have dcA0 : (x.f0 == a) = false := by simpa using hA0
    repeat (first | (with_reducible refine AW.seq ?_) | (with_reducible refine AW.block ?_) | (with_reducible refine AW.skip ?_) | (with_reducible refine AW.ret ?_) | (with_reducible refine AW.exit ?_) | (with_reducible refine AW.reg hT ?_) | ((with_reducible refine AW.cond_true ?_ ?_); · rfl) | ((with_reducible refine AW.cond_false ?_ ?_); · rfl) | simp (maxSteps := 3000000) (maxDischargeDepth := 12) only [push_cast,appendX,reduceIte,reduceCtorEq,Nat.reduceSub,Nat.reduceAdd,Nat.reduceMul,Nat.reduceLT,Nat.reduceLeDiff,Nat.reduceEqDiff,Nat.reduceBEq,Int.reduceToNat,Int.reduceLT,Int.reduceLE,Int.reduceEq,Int.reduceNeg,Try.results31,gt1,Heap.lt gt1,gt2,Heap.lt gt2,dcA0])
    refine ⟨by simp [*], ?_⟩
    repeat (first | exact Ext.refl _ _ | assumption | refine Ext.push ?_ _ | ((refine Ext.set ?_ ?_ _); rotate_left; · (simp (maxSteps := 3000000) (maxDischargeDepth := 12) only [push_cast, appendX, Nat.reduceAdd, Nat.reduceEqDiff, Nat.reduceLT, Nat.reduceLeDiff, reduceIte, reduceCtorEq, gt1, Heap.lt gt1, gt2, Heap.lt gt2, dcA0])) | ((refine Ext.then1 (by assumption) ?_ ?_); rotate_left; · (intro p hp _; first | assumption | exact List.mem_cons_of_mem _ hp | (cases hp; done) | (simp at hp; subst hp; simp))))
def ffI (l : List Lk) (a b : Int) (q1 q2 : Nat) (σ0 : Heap) (m : Nat) (ts : List DV) (σ : Heap) : Prop := ∃ i, m = l.length + 1 - i ∧ i ≤ l.length ∧ (∀ y ∈ l.take i, ¬ (y.f0 = a ∧ y.f1 = b)) ∧ Ext [] σ0 σ ∧ TellsL ts (.imm (l.map eK) :: .fn (.func 31) [] [.ptr q1 0 0 1, .ptr q2 0 0 1] :: .any :: .any :: .any :: .any :: .any :: .sc (.int .i64 l.length) :: .sc (.int .i64 i) :: .any :: .any :: .any :: .any :: .any :: .any :: .any :: .any :: .any :: .any :: [])
theorem findF_ok (σ : Heap) (l : List Lk) (a b : Int) {q1 q2 : Nat} (gt1 : σ.get q1 = some ⟨[[.sc (.int .i64 a)]], 3, true⟩) (gt2 : σ.get q2 = some ⟨[[.sc (.int .i64 b)]], 3, true⟩) (hl : l.length ≤ 1000000) : ACalls Try.prog 30 [.imm (l.map eK), .fn (.func 31) [] [.ptr q1 0 0 1, .ptr q2 0 0 1]] σ (fun y σ' => y = .sc (.int .i64 (fnd l a b)) ∧ Ext [] σ σ') := by
  have dcml : (l.map eK).length = l.length := by simp
  refine ACalls.code hT Try.func30 rfl ?_
  simp only [Try.ntmps30, List.length_cons, List.length_nil, Nat.reduceSub, Nat.reduceAdd, List.replicate, List.cons_append, List.nil_append]
  repeat (first | (with_reducible refine AW.seq ?_) | (with_reducible refine AW.block ?_) | (with_reducible refine AW.skip ?_) | (with_reducible refine AW.ret ?_) | (with_reducible refine AW.exit ?_) | (with_reducible refine AW.reg hT ?_) | ((with_reducible refine AW.cond_true ?_ ?_); · rfl) | ((with_reducible refine AW.cond_false ?_ ?_); · rfl) | simp (maxSteps := 3000000) (maxDischargeDepth := 12) only [push_cast,appendX,reduceIte,reduceCtorEq,Nat.reduceSub,Nat.reduceAdd,Nat.reduceMul,Nat.reduceLT,Nat.reduceLeDiff,Nat.reduceEqDiff,Nat.reduceBEq,Int.reduceToNat,Int.reduceLT,Int.reduceLE,Int.reduceEq,Int.reduceNeg,Try.results30,gt1,Heap.lt gt1,gt2,Heap.lt gt2,dcml])
  refine AW.loop (ffI l a b q1 q2 σ) (m := l.length + 1) ⟨0, rfl, Nat.zero_le _, by simp, Ext.refl _ _, by (simp only [push_cast, TellsL, tells_any, tells_refl])⟩ ?_
  rintro m ts σ3 ⟨i, rfl, hil, hno, xt3, hts⟩
  refine AW.told hts ?_
  clear hts
  by_cases hi : i < l.length
  · have dci : decide ((i : Int) < (l.length : Int)) = true := by simp; omega
    have dci2 : ((i : Int) < (l.length : Int)) = True := by simp; omega
    have dci0 : ((0 : Int) ≤ (i : Int)) = True := by simp
    obtain ⟨x, hx⟩ : ∃ x, x = l[i] := ⟨_, rfl⟩
    have dcel : (l.map eK)[i]? = some (eK x) := by rw [List.getElem?_map, List.getElem?_eq_getElem hi, hx]; rfl
    rw [eK_eq] at dcel
    have dcw : IntKind.i64.wrap ((i : Int) + 1) = (i : Int) + 1 := wrap_i64 (by omega) (by omega)
    have hg1 := xt3.get gt1 (by simp)
    have hg2 := xt3.get gt2 (by simp)
    repeat (first | (with_reducible refine AW.seq ?_) | (with_reducible refine AW.block ?_) | (with_reducible refine AW.skip ?_) | (with_reducible refine AW.ret ?_) | (with_reducible refine AW.exit ?_) | (with_reducible refine AW.reg hT ?_) | ((with_reducible refine AW.cond_true ?_ ?_); · rfl) | ((with_reducible refine AW.cond_false ?_ ?_); · rfl) | simp (maxSteps := 3000000) (maxDischargeDepth := 12) only [push_cast,appendX,reduceIte,reduceCtorEq,Nat.reduceSub,Nat.reduceAdd,Nat.reduceMul,Nat.reduceLT,Nat.reduceLeDiff,Nat.reduceEqDiff,Nat.reduceBEq,Int.reduceToNat,Int.reduceLT,Int.reduceLE,Int.reduceEq,Int.reduceNeg,Try.results30,gt1,Heap.lt gt1,gt2,Heap.lt gt2,dcml,xt3.2,xt3.ltT,xt3.leT,dci,dci2,dci0,dcel,dcw])
    refine AOpsL.call (first := []) (cap := [.ptr q1 0 0 1, .ptr q2 0 0 1]) hT rfl rfl rfl fn31 rfl ((find1_ok _ x a b hg1 hg2).mono ?_)
    rintro y s' ⟨rfl, xt4⟩
    by_cases h1 : x.f0 = a ∧ x.f1 = b
    · have dc1 : decide (x.f0 = a ∧ x.f1 = b) = true := by simpa using h1
      rw [dc1]
      repeat (first | (with_reducible refine AW.seq ?_) | (with_reducible refine AW.block ?_) | (with_reducible refine AW.skip ?_) | (with_reducible refine AW.ret ?_) | (with_reducible refine AW.exit ?_) | (with_reducible refine AW.reg hT ?_) | ((with_reducible refine AW.cond_true ?_ ?_); · rfl) | ((with_reducible refine AW.cond_false ?_ ?_); · rfl) | simp (maxSteps := 3000000) (maxDischargeDepth := 12) only [push_cast,appendX,reduceIte,reduceCtorEq,Nat.reduceSub,Nat.reduceAdd,Nat.reduceMul,Nat.reduceLT,Nat.reduceLeDiff,Nat.reduceEqDiff,Nat.reduceBEq,Int.reduceToNat,Int.reduceLT,Int.reduceLE,Int.reduceEq,Int.reduceNeg,Try.results30,gt1,Heap.lt gt1,gt2,Heap.lt gt2,dcml,xt3.2,xt3.ltT,xt3.leT,dci,dci2,dci0,dcel,dcw,xt4.2,xt4.ltT,xt4.leT,dc1])
      exact ⟨by rw [fnd_at l a b i hi hno (by rw [← hx]; exact h1)], by repeat (first | exact Ext.refl _ _ | assumption | refine Ext.push ?_ _ | ((refine Ext.set ?_ ?_ _); rotate_left; · (simp (maxSteps := 3000000) (maxDischargeDepth := 12) only [push_cast, appendX, Nat.reduceAdd, Nat.reduceEqDiff, Nat.reduceLT, Nat.reduceLeDiff, reduceIte, reduceCtorEq, gt1, Heap.lt gt1, gt2, Heap.lt gt2, dcml, xt3.2, xt3.ltT, xt3.leT, dci, dci2, dci0, dcel, dcw, xt4.2, xt4.ltT, xt4.leT, dc1])) | ((refine Ext.then1 (by assumption) ?_ ?_); rotate_left; · (intro p hp _; first | assumption | exact List.mem_cons_of_mem _ hp | (cases hp; done) | (simp at hp; subst hp; simp))))⟩
    · have dc1 : decide (x.f0 = a ∧ x.f1 = b) = false := by simpa using h1
      have hno' : ∀ y ∈ l.take (i + 1), ¬ (y.f0 = a ∧ y.f1 = b) := by
        intro y hy
        rw [List.take_add_one, List.getElem?_eq_getElem hi, ← hx] at hy
        rcases List.mem_append.1 hy with hy | hy
        · exact hno y hy
        · simp at hy; rw [hy]; exact h1
      rw [dc1]
      repeat (first | (with_reducible refine AW.seq ?_) | (with_reducible refine AW.block ?_) | (with_reducible refine AW.skip ?_) | (with_reducible refine AW.ret ?_) | (with_reducible refine AW.exit ?_) | (with_reducible refine AW.reg hT ?_) | ((with_reducible refine AW.cond_true ?_ ?_); · rfl) | ((with_reducible refine AW.cond_false ?_ ?_); · rfl) | simp (maxSteps := 3000000) (maxDischargeDepth := 12) only [push_cast,appendX,reduceIte,reduceCtorEq,Nat.reduceSub,Nat.reduceAdd,Nat.reduceMul,Nat.reduceLT,Nat.reduceLeDiff,Nat.reduceEqDiff,Nat.reduceBEq,Int.reduceToNat,Int.reduceLT,Int.reduceLE,Int.reduceEq,Int.reduceNeg,Try.results30,gt1,Heap.lt gt1,gt2,Heap.lt gt2,dcml,xt3.2,xt3.ltT,xt3.leT,dci,dci2,dci0,dcel,dcw,xt4.2,xt4.ltT,xt4.leT,dc1])
      exact ⟨l.length + 1 - (i + 1), by omega, i + 1, rfl, hi, hno', by repeat (first | exact Ext.refl _ _ | assumption | refine Ext.push ?_ _ | ((refine Ext.set ?_ ?_ _); rotate_left; · (simp (maxSteps := 3000000) (maxDischargeDepth := 12) only [push_cast, appendX, Nat.reduceAdd, Nat.reduceEqDiff, Nat.reduceLT, Nat.reduceLeDiff, reduceIte, reduceCtorEq, gt1, Heap.lt gt1, gt2, Heap.lt gt2, dcml, xt3.2, xt3.ltT, xt3.leT, dci, dci2, dci0, dcel, dcw, xt4.2, xt4.ltT, xt4.leT, dc1])) | ((refine Ext.then1 (by assumption) ?_ ?_); rotate_left; · (intro p hp _; first | assumption | exact List.mem_cons_of_mem _ hp | (cases hp; done) | (simp at hp; subst hp; simp)))), by (simp only [push_cast, TellsL, tells_any, tells_refl])⟩
  · have dci : decide ((i : Int) < (l.length : Int)) = false := by simp; omega
    have he : i = l.length := by omega
    subst he
    rw [List.take_length] at hno
    repeat (first | (with_reducible refine AW.seq ?_) | (with_reducible refine AW.block ?_) | (with_reducible refine AW.skip ?_) | (with_reducible refine AW.ret ?_) | (with_reducible refine AW.exit ?_) | (with_reducible refine AW.reg hT ?_) | ((with_reducible refine AW.cond_true ?_ ?_); · rfl) | ((with_reducible refine AW.cond_false ?_ ?_); · rfl) | simp (maxSteps := 3000000) (maxDischargeDepth := 12) only [push_cast,appendX,reduceIte,reduceCtorEq,Nat.reduceSub,Nat.reduceAdd,Nat.reduceMul,Nat.reduceLT,Nat.reduceLeDiff,Nat.reduceEqDiff,Nat.reduceBEq,Int.reduceToNat,Int.reduceLT,Int.reduceLE,Int.reduceEq,Int.reduceNeg,Try.results30,gt1,Heap.lt gt1,gt2,Heap.lt gt2,dcml,xt3.2,xt3.ltT,xt3.leT,dci])
    exact ⟨by rw [fnd_none l a b hno], xt3⟩
theorem pfind_ok (σ : Heap) (l : List Lk) (a b : Int) (hl : l.length ≤ 1000000) : ACalls Try.prog 18 [.imm (l.map eK), .sc (.int .i64 a), .sc (.int .i64 b)] σ (fun y σ' => y = .sc (.int .i64 (fnd l a b)) ∧ Ext [] σ σ') := by
  refine ACalls.code hT Try.func18 rfl ?_
  simp only [Try.ntmps18, List.length_cons, List.length_nil, Nat.reduceSub, Nat.reduceAdd, List.replicate, List.cons_append, List.nil_append]
  repeat (first | (with_reducible refine AW.seq ?_) | (with_reducible refine AW.block ?_) | (with_reducible refine AW.skip ?_) | (with_reducible refine AW.ret ?_) | (with_reducible refine AW.exit ?_) | (with_reducible refine AW.reg hT ?_) | ((with_reducible refine AW.cond_true ?_ ?_); · rfl) | ((with_reducible refine AW.cond_false ?_ ?_); · rfl) | simp (maxSteps := 3000000) (maxDischargeDepth := 12) only [push_cast,appendX,reduceIte,reduceCtorEq,Nat.reduceSub,Nat.reduceAdd,Nat.reduceMul,Nat.reduceLT,Nat.reduceLeDiff,Nat.reduceEqDiff,Nat.reduceBEq,Int.reduceToNat,Int.reduceLT,Int.reduceLE,Int.reduceEq,Int.reduceNeg,Try.results18])
  refine AOpsL.call (first := []) (cap := []) hT rfl rfl rfl fn30 rfl (ACalls.mono (findF_ok _ l a b (q1 := σ.n) (q2 := σ.n + 1) (by simp (maxSteps := 3000000) (maxDischargeDepth := 12) only [push_cast, appendX, Nat.reduceAdd, Nat.reduceEqDiff, Nat.reduceLT, Nat.reduceLeDiff, reduceIte, reduceCtorEq]) (by simp (maxSteps := 3000000) (maxDischargeDepth := 12) only [push_cast, appendX, Nat.reduceAdd, Nat.reduceEqDiff, Nat.reduceLT, Nat.reduceLeDiff, reduceIte, reduceCtorEq]) hl) ?_)
  rintro y σ1 ⟨rfl, xt1⟩
  repeat (first | (with_reducible refine AW.seq ?_) | (with_reducible refine AW.block ?_) | (with_reducible refine AW.skip ?_) | (with_reducible refine AW.ret ?_) | (with_reducible refine AW.exit ?_) | (with_reducible refine AW.reg hT ?_) | ((with_reducible refine AW.cond_true ?_ ?_); · rfl) | ((with_reducible refine AW.cond_false ?_ ?_); · rfl) | simp (maxSteps := 3000000) (maxDischargeDepth := 12) only [push_cast,appendX,reduceIte,reduceCtorEq,Nat.reduceSub,Nat.reduceAdd,Nat.reduceMul,Nat.reduceLT,Nat.reduceLeDiff,Nat.reduceEqDiff,Nat.reduceBEq,Int.reduceToNat,Int.reduceLT,Int.reduceLE,Int.reduceEq,Int.reduceNeg,Try.results18,xt1.2,xt1.ltT,xt1.leT])
  repeat (first | exact Ext.refl _ _ | assumption | refine Ext.push ?_ _ | ((refine Ext.set ?_ ?_ _); rotate_left; · (simp (maxSteps := 3000000) (maxDischargeDepth := 12) only [push_cast, appendX, Nat.reduceAdd, Nat.reduceEqDiff, Nat.reduceLT, Nat.reduceLeDiff, reduceIte, reduceCtorEq, xt1.2, xt1.ltT, xt1.leT])) | ((refine Ext.then1 (by assumption) ?_ ?_); rotate_left; · (intro p hp _; first | assumption | exact List.mem_cons_of_mem _ hp | (cases hp; done) | (simp at hp; subst hp; simp))))
end Go.Proofs.Ytpigelcckiejiaa.Cm
