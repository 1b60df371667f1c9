/- Whether a number is among others; graph.Find. What a route costs. -/
import Derived.Test.YtpigelcckiejiaaGYd
namespace Go.Proofs.Ytpigelcckiejiaa.Cm
open Go.RowKit
set_option linter.unusedVariables false
set_option linter.unusedSimpArgs false
set_option maxRecDepth 20000
set_option maxHeartbeats 8000000
def eZ (n : Int) : List DV := [.sc (.int .i64 n)]
def hsI (r : List Int) (x : Int) (σ0 : Heap) (m : Nat) (ts : List DV) (σ : Heap) : Prop := ∃ i, m = r.length + 1 - i ∧ i ≤ r.length ∧ x ∉ r.take i ∧ σ = σ0 ∧ TellsL ts (.imm (r.map eZ) :: .sc (.int .i64 x) :: .any :: .any :: .any :: .sc (.int .i64 i) :: .any :: .any :: .any :: .any :: .any :: .any :: .any :: .any :: .any :: .any :: .any :: .any :: [])
theorem notin_next {r : List Int} {x : Int} {i : Nat} (hi : i < r.length) (h : x ∉ r.take i) (hx : r[i] ≠ x) : x ∉ r.take (i + 1) := by
  rw [List.take_add_one, List.getElem?_eq_getElem hi]
  intro hm
  rcases List.mem_append.1 hm with hm | hm
  · exact h hm
  · simp at hm; exact hx hm.symm
theorem has_ok (σ : Heap) (r : List Int) (x : Int) (hl : r.length ≤ 1000000) : ACalls Try.prog 24 [.imm (r.map eZ), .sc (.int .i64 x)] σ (fun y σ' => y = .sc (.bool (decide (x ∈ r))) ∧ σ' = σ) := by
  have dcml : (r.map eZ).length = r.length := by simp
  refine ACalls.code hT Try.func24 rfl ?_
  simp only [Try.ntmps24, List.length_cons, List.length_nil, Nat.reduceSub, Nat.reduceAdd, List.replicate, List.cons_append, List.nil_append]
  repeat (first | (with_reducible refine AW.seq ?_) | (with_reducible refine AW.block ?_) | (with_reducible refine AW.skip ?_) | (with_reducible refine AW.ret ?_) | (with_reducible refine AW.exit ?_) | (with_reducible refine AW.reg hT ?_) | ((with_reducible refine AW.cond_true ?_ ?_); · rfl) | ((with_reducible refine AW.cond_false ?_ ?_); · rfl) | simp (maxSteps := 3000000) (maxDischargeDepth := 12) only [push_cast,appendX,reduceIte,reduceCtorEq,Nat.reduceSub,Nat.reduceAdd,Nat.reduceMul,Nat.reduceLT,Nat.reduceLeDiff,Nat.reduceEqDiff,Nat.reduceBEq,Int.reduceToNat,Int.reduceLT,Int.reduceLE,Int.reduceEq,Int.reduceNeg,Try.results24,dcml])
  refine AW.loop (hsI r x σ) (m := r.length + 1) ⟨0, rfl, Nat.zero_le _, by simp, rfl, by (simp only [push_cast, TellsL, tells_any, tells_refl])⟩ ?_
  rintro m ts σ3 ⟨i, rfl, hil, hno, rfl, hts⟩
  refine AW.told hts ?_
  clear hts
  by_cases hi : i < r.length
  · have dci : decide ((i : Int) < (r.length : Int)) = true := by simp; omega
    have dci2 : ((i : Int) < (r.length : Int)) = True := by simp; omega
    have dci0 : ((0 : Int) ≤ (i : Int)) = True := by simp
    have dcel : (r.map eZ)[i]? = some [.sc (.int .i64 r[i])] := by rw [List.getElem?_map, List.getElem?_eq_getElem hi]; rfl
    have dcw : IntKind.i64.wrap ((i : Int) + 1) = (i : Int) + 1 := wrap_i64 (by omega) (by omega)
    by_cases hx : r[i] = x
    · have dcx : (r[i] == x) = true := by simpa using hx
      have hmem : x ∈ r := by rw [← hx]; exact List.getElem_mem _
      have dch : decide (x ∈ r) = true := decide_eq_true hmem
      repeat (first | (with_reducible refine AW.seq ?_) | (with_reducible refine AW.block ?_) | (with_reducible refine AW.skip ?_) | (with_reducible refine AW.ret ?_) | (with_reducible refine AW.exit ?_) | (with_reducible refine AW.reg hT ?_) | ((with_reducible refine AW.cond_true ?_ ?_); · rfl) | ((with_reducible refine AW.cond_false ?_ ?_); · rfl) | simp (maxSteps := 3000000) (maxDischargeDepth := 12) only [push_cast,appendX,reduceIte,reduceCtorEq,Nat.reduceSub,Nat.reduceAdd,Nat.reduceMul,Nat.reduceLT,Nat.reduceLeDiff,Nat.reduceEqDiff,Nat.reduceBEq,Int.reduceToNat,Int.reduceLT,Int.reduceLE,Int.reduceEq,Int.reduceNeg,Try.results24,dcml,dci,dci2,dci0,dcel,dcw,dcx,dch])
    · have dcx : (r[i] == x) = false := by simpa using hx
      have hno' := notin_next hi hno hx
      repeat (first | (with_reducible refine AW.seq ?_) | (with_reducible refine AW.block ?_) | (with_reducible refine AW.skip ?_) | (with_reducible refine AW.ret ?_) | (with_reducible refine AW.exit ?_) | (with_reducible refine AW.reg hT ?_) | ((with_reducible refine AW.cond_true ?_ ?_); · rfl) | ((with_reducible refine AW.cond_false ?_ ?_); · rfl) | simp (maxSteps := 3000000) (maxDischargeDepth := 12) only [push_cast,appendX,reduceIte,reduceCtorEq,Nat.reduceSub,Nat.reduceAdd,Nat.reduceMul,Nat.reduceLT,Nat.reduceLeDiff,Nat.reduceEqDiff,Nat.reduceBEq,Int.reduceToNat,Int.reduceLT,Int.reduceLE,Int.reduceEq,Int.reduceNeg,Try.results24,dcml,dci,dci2,dci0,dcel,dcw,dcx])
      exact ⟨r.length + 1 - (i + 1), by omega, i + 1, rfl, hi, hno', rfl, by (simp only [push_cast, TellsL, tells_any, tells_refl])⟩
  · have dci : decide ((i : Int) < (r.length : Int)) = false := by simp; omega
    rw [List.take_of_length_le (by omega)] at hno
    have dch : decide (x ∈ r) = false := decide_eq_false hno
    repeat (first | (with_reducible refine AW.seq ?_) | (with_reducible refine AW.block ?_) | (with_reducible refine AW.skip ?_) | (with_reducible refine AW.ret ?_) | (with_reducible refine AW.exit ?_) | (with_reducible refine AW.reg hT ?_) | ((with_reducible refine AW.cond_true ?_ ?_); · rfl) | ((with_reducible refine AW.cond_false ?_ ?_); · rfl) | simp (maxSteps := 3000000) (maxDischargeDepth := 12) only [push_cast,appendX,reduceIte,reduceCtorEq,Nat.reduceSub,Nat.reduceAdd,Nat.reduceMul,Nat.reduceLT,Nat.reduceLeDiff,Nat.reduceEqDiff,Nat.reduceBEq,Int.reduceToNat,Int.reduceLT,Int.reduceLE,Int.reduceEq,Int.reduceNeg,Try.results24,dcml,dci,dch])
def ixI (r : List Int) (x : Int) (σ0 : Heap) (m : Nat) (ts : List DV) (σ : Heap) : Prop := ∃ i, m = r.length + 1 - i ∧ i ≤ r.length ∧ x ∉ r.take i ∧ σ = σ0 ∧ TellsL ts (.imm (r.map eZ) :: .sc (.int .i64 x) :: .any :: .any :: .any :: .any :: .any :: .sc (.int .i64 r.length) :: .sc (.int .i64 i) :: .any :: .any :: .any :: .any :: .any :: .any :: .any :: .any :: .any :: .any :: [])
theorem index_ok (σ : Heap) (r : List Int) (x : Int) (hl : r.length ≤ 1000000) : ACalls Try.prog 35 [.imm (r.map eZ), .sc (.int .i64 x)] σ (fun y σ' => (∃ v : Int, y = .sc (.int .i64 v) ∧ (0 ≤ v ↔ x ∈ r)) ∧ σ' = σ) := by
  have dcml : (r.map eZ).length = r.length := by simp
  refine ACalls.code hT Try.func35 rfl ?_
  simp only [Try.ntmps35, List.length_cons, List.length_nil, Nat.reduceSub, Nat.reduceAdd, List.replicate, List.cons_append, List.nil_append]
  repeat (first | (with_reducible refine AW.seq ?_) | (with_reducible refine AW.block ?_) | (with_reducible refine AW.skip ?_) | (with_reducible refine AW.ret ?_) | (with_reducible refine AW.exit ?_) | (with_reducible refine AW.reg hT ?_) | ((with_reducible refine AW.cond_true ?_ ?_); · rfl) | ((with_reducible refine AW.cond_false ?_ ?_); · rfl) | simp (maxSteps := 3000000) (maxDischargeDepth := 12) only [push_cast,appendX,reduceIte,reduceCtorEq,Nat.reduceSub,Nat.reduceAdd,Nat.reduceMul,Nat.reduceLT,Nat.reduceLeDiff,Nat.reduceEqDiff,Nat.reduceBEq,Int.reduceToNat,Int.reduceLT,Int.reduceLE,Int.reduceEq,Int.reduceNeg,Try.results35,dcml])
  refine AW.loop (ixI r x σ) (m := r.length + 1) ⟨0, rfl, Nat.zero_le _, by simp, rfl, by (simp only [push_cast, TellsL, tells_any, tells_refl])⟩ ?_
  rintro m ts σ3 ⟨i, rfl, hil, hno, rfl, hts⟩
  refine AW.told hts ?_
  clear hts
  by_cases hi : i < r.length
  · have dci : decide ((i : Int) < (r.length : Int)) = true := by simp; omega
    have dci2 : ((i : Int) < (r.length : Int)) = True := by simp; omega
    have dci0 : ((0 : Int) ≤ (i : Int)) = True := by simp
    have dcel : (r.map eZ)[i]? = some [.sc (.int .i64 r[i])] := by rw [List.getElem?_map, List.getElem?_eq_getElem hi]; rfl
    have dcw : IntKind.i64.wrap ((i : Int) + 1) = (i : Int) + 1 := wrap_i64 (by omega) (by omega)
    by_cases hx : r[i] = x
    · have dcx : (x == r[i]) = true := by simpa using hx.symm
      have hmem : x ∈ r := by rw [← hx]; exact List.getElem_mem _
      repeat (first | (with_reducible refine AW.seq ?_) | (with_reducible refine AW.block ?_) | (with_reducible refine AW.skip ?_) | (with_reducible refine AW.ret ?_) | (with_reducible refine AW.exit ?_) | (with_reducible refine AW.reg hT ?_) | ((with_reducible refine AW.cond_true ?_ ?_); · rfl) | ((with_reducible refine AW.cond_false ?_ ?_); · rfl) | simp (maxSteps := 3000000) (maxDischargeDepth := 12) only [push_cast,appendX,reduceIte,reduceCtorEq,Nat.reduceSub,Nat.reduceAdd,Nat.reduceMul,Nat.reduceLT,Nat.reduceLeDiff,Nat.reduceEqDiff,Nat.reduceBEq,Int.reduceToNat,Int.reduceLT,Int.reduceLE,Int.reduceEq,Int.reduceNeg,Try.results35,dcml,dci,dci2,dci0,dcel,dcw,dcx])
      exact ⟨(i : Int), rfl, by simp [hmem]⟩
    · have dcx : (x == r[i]) = false := by simpa using Ne.symm hx
      have hno' := notin_next hi hno hx
      repeat (first | (with_reducible refine AW.seq ?_) | (with_reducible refine AW.block ?_) | (with_reducible refine AW.skip ?_) | (with_reducible refine AW.ret ?_) | (with_reducible refine AW.exit ?_) | (with_reducible refine AW.reg hT ?_) | ((with_reducible refine AW.cond_true ?_ ?_); · rfl) | ((with_reducible refine AW.cond_false ?_ ?_); · rfl) | simp (maxSteps := 3000000) (maxDischargeDepth := 12) only [push_cast,appendX,reduceIte,reduceCtorEq,Nat.reduceSub,Nat.reduceAdd,Nat.reduceMul,Nat.reduceLT,Nat.reduceLeDiff,Nat.reduceEqDiff,Nat.reduceBEq,Int.reduceToNat,Int.reduceLT,Int.reduceLE,Int.reduceEq,Int.reduceNeg,Try.results35,dcml,dci,dci2,dci0,dcel,dcw,dcx])
      exact ⟨r.length + 1 - (i + 1), by omega, i + 1, rfl, hi, hno', rfl, by (simp only [push_cast, TellsL, tells_any, tells_refl])⟩
  · have dci : decide ((i : Int) < (r.length : Int)) = false := by simp; omega
    rw [List.take_of_length_le (by omega)] at hno
    repeat (first | (with_reducible refine AW.seq ?_) | (with_reducible refine AW.block ?_) | (with_reducible refine AW.skip ?_) | (with_reducible refine AW.ret ?_) | (with_reducible refine AW.exit ?_) | (with_reducible refine AW.reg hT ?_) | ((with_reducible refine AW.cond_true ?_ ?_); · rfl) | ((with_reducible refine AW.cond_false ?_ ?_); · rfl) | simp (maxSteps := 3000000) (maxDischargeDepth := 12) only [push_cast,appendX,reduceIte,reduceCtorEq,Nat.reduceSub,Nat.reduceAdd,Nat.reduceMul,Nat.reduceLT,Nat.reduceLeDiff,Nat.reduceEqDiff,Nat.reduceBEq,Int.reduceToNat,Int.reduceLT,Int.reduceLE,Int.reduceEq,Int.reduceNeg,Try.results35,dcml,dci])
    exact ⟨-1, rfl, by simp [hno]⟩
theorem contains_ok (σ : Heap) (r : List Int) (x : Int) (hl : r.length ≤ 1000000) : ACalls Try.prog 25 [.imm (r.map eZ), .sc (.int .i64 x)] σ (fun y σ' => y = .sc (.bool (decide (x ∈ r))) ∧ σ' = σ) := by
  refine ACalls.code hT Try.func25 rfl ?_
  simp only [Try.ntmps25, List.length_cons, List.length_nil, Nat.reduceSub, Nat.reduceAdd, List.replicate, List.cons_append, List.nil_append]
  repeat (first | (with_reducible refine AW.seq ?_) | (with_reducible refine AW.block ?_) | (with_reducible refine AW.skip ?_) | (with_reducible refine AW.ret ?_) | (with_reducible refine AW.exit ?_) | (with_reducible refine AW.reg hT ?_) | ((with_reducible refine AW.cond_true ?_ ?_); · rfl) | ((with_reducible refine AW.cond_false ?_ ?_); · rfl) | simp (maxSteps := 3000000) (maxDischargeDepth := 12) only [push_cast,appendX,reduceIte,reduceCtorEq,Nat.reduceSub,Nat.reduceAdd,Nat.reduceMul,Nat.reduceLT,Nat.reduceLeDiff,Nat.reduceEqDiff,Nat.reduceBEq,Int.reduceToNat,Int.reduceLT,Int.reduceLE,Int.reduceEq,Int.reduceNeg,Try.results25])
  refine AOpsL.call (first := []) (cap := []) hT rfl rfl rfl fn35 rfl (ACalls.mono (index_ok _ r x hl) ?_)
  rintro y s ⟨⟨v, rfl, hv⟩, rfl⟩
  have dcv : decide (0 ≤ v) = decide (x ∈ r) := decide_eq_decide.2 hv
  repeat (first | (with_reducible refine AW.seq ?_) | (with_reducible refine AW.block ?_) | (with_reducible refine AW.skip ?_) | (with_reducible refine AW.ret ?_) | (with_reducible refine AW.exit ?_) | (with_reducible refine AW.reg hT ?_) | ((with_reducible refine AW.cond_true ?_ ?_); · rfl) | ((with_reducible refine AW.cond_false ?_ ?_); · rfl) | simp (maxSteps := 3000000) (maxDischargeDepth := 12) only [push_cast,appendX,reduceIte,reduceCtorEq,Nat.reduceSub,Nat.reduceAdd,Nat.reduceMul,Nat.reduceLT,Nat.reduceLeDiff,Nat.reduceEqDiff,Nat.reduceBEq,Int.reduceToNat,Int.reduceLT,Int.reduceLE,Int.reduceEq,Int.reduceNeg,Try.results25,dcv])
theorem find1_ok (σ : Heap) {q1 q2 : Nat} (x : Lk) (a b : Int) (gt1 : σ.get q1 = some ⟨[[.sc (.int .i64 a)]], 3, true⟩) (gt2 : σ.get q2 = some ⟨[[.sc (.int .i64 b)]], 3, true⟩) : ACalls Try.prog 31 [.agg (eK x), .ptr q1 0 0 1, .ptr q2 0 0 1] σ (fun y σ' => y = .sc (.bool (decide (x.f0 = a ∧ x.f1 = b))) ∧ Ext [] σ σ') := by
  simp only [eK_eq]
  refine ACalls.code hT Try.func31 rfl ?_
  simp only [Try.ntmps31, List.length_cons, List.length_nil, Nat.reduceSub, Nat.reduceAdd, List.replicate, List.cons_append, List.nil_append]
  by_cases hA0 : x.f0 = a
  · have dcA0 : (x.f0 == a) = true := by simpa using hA0
    by_cases hA1 : x.f1 = b
    · have dcA1 : (x.f1 == b) = true := by simpa using hA1
      repeat (first | (with_reducible refine AW.seq ?_) | (with_reducible refine AW.block ?_) | (with_reducible refine AW.skip ?_) | (with_reducible refine AW.ret ?_) | (with_reducible refine AW.exit ?_) | (with_reducible refine AW.reg hT ?_) | ((with_reducible refine AW.cond_true ?_ ?_); · rfl) | ((with_reducible refine AW.cond_false ?_ ?_); · rfl) | simp (maxSteps := 3000000) (maxDischargeDepth := 12) only [push_cast,appendX,reduceIte,reduceCtorEq,Nat.reduceSub,Nat.reduceAdd,Nat.reduceMul,Nat.reduceLT,Nat.reduceLeDiff,Nat.reduceEqDiff,Nat.reduceBEq,Int.reduceToNat,Int.reduceLT,Int.reduceLE,Int.reduceEq,Int.reduceNeg,Try.results31,gt1,Heap.lt gt1,gt2,Heap.lt gt2,dcA0,dcA1])
      refine ⟨by simp [*], ?_⟩
      repeat (first | exact Ext.refl _ _ | assumption | refine Ext.push ?_ _ | ((refine Ext.set ?_ ?_ _); rotate_left; · (simp (maxSteps := 3000000) (maxDischargeDepth := 12) only [push_cast, appendX, Nat.reduceAdd, Nat.reduceEqDiff, Nat.reduceLT, Nat.reduceLeDiff, reduceIte, reduceCtorEq, gt1, Heap.lt gt1, gt2, Heap.lt gt2, dcA0, dcA1])) | ((refine Ext.then1 (by assumption) ?_ ?_); rotate_left; · (intro p hp _; first | assumption | exact List.mem_cons_of_mem _ hp | (cases hp; done) | (simp at hp; subst hp; simp))))
    · have dcA1 : (x.f1 == b) = false := by simpa using hA1
      repeat (first | (with_reducible refine AW.seq ?_) | (with_reducible refine AW.block ?_) | (with_reducible refine AW.skip ?_) | (with_reducible refine AW.ret ?_) | (with_reducible refine AW.exit ?_) | (with_reducible refine AW.reg hT ?_) | ((with_reducible refine AW.cond_true ?_ ?_); · rfl) | ((with_reducible refine AW.cond_false ?_ ?_); · rfl) | simp (maxSteps := 3000000) (maxDischargeDepth := 12) only [push_cast,appendX,reduceIte,reduceCtorEq,Nat.reduceSub,Nat.reduceAdd,Nat.reduceMul,Nat.reduceLT,Nat.reduceLeDiff,Nat.reduceEqDiff,Nat.reduceBEq,Int.reduceToNat,Int.reduceLT,Int.reduceLE,Int.reduceEq,Int.reduceNeg,Try.results31,gt1,Heap.lt gt1,gt2,Heap.lt gt2,dcA0,dcA1])
      refine ⟨by simp [*], ?_⟩
      repeat (first | exact Ext.refl _ _ | assumption | refine Ext.push ?_ _ | ((refine Ext.set ?_ ?_ _); rotate_left; · (simp (maxSteps := 3000000) (maxDischargeDepth := 12) only [push_cast, appendX, Nat.reduceAdd, Nat.reduceEqDiff, Nat.reduceLT, Nat.reduceLeDiff, reduceIte, reduceCtorEq, gt1, Heap.lt gt1, gt2, Heap.lt gt2, dcA0, dcA1])) | ((refine Ext.then1 (by assumption) ?_ ?_); rotate_left; · (intro p hp _; first | assumption | exact List.mem_cons_of_mem _ hp | (cases hp; done) | (simp at hp; subst hp; simp))))
  · have dcA0 : (x.f0 == a) = false := by simpa using hA0
    repeat (first | (with_reducible refine AW.seq ?_) | (with_reducible refine AW.block ?_) | (with_reducible refine AW.skip ?_) | (with_reducible refine AW.ret ?_) | (with_reducible refine AW.exit ?_) | (with_reducible refine AW.reg hT ?_) | ((with_reducible refine AW.cond_true ?_ ?_); · rfl) | ((with_reducible refine AW.cond_false ?_ ?_); · rfl) | simp (maxSteps := 3000000) (maxDischargeDepth := 12) only [push_cast,appendX,reduceIte,reduceCtorEq,Nat.reduceSub,Nat.reduceAdd,Nat.reduceMul,Nat.reduceLT,Nat.reduceLeDiff,Nat.reduceEqDiff,Nat.reduceBEq,Int.reduceToNat,Int.reduceLT,Int.reduceLE,Int.reduceEq,Int.reduceNeg,Try.results31,gt1,Heap.lt gt1,gt2,Heap.lt gt2,dcA0])
    refine ⟨by simp [*], ?_⟩
    repeat (first | exact Ext.refl _ _ | assumption | refine Ext.push ?_ _ | ((refine Ext.set ?_ ?_ _); rotate_left; · (simp (maxSteps := 3000000) (maxDischargeDepth := 12) only [push_cast, appendX, Nat.reduceAdd, Nat.reduceEqDiff, Nat.reduceLT, Nat.reduceLeDiff, reduceIte, reduceCtorEq, gt1, Heap.lt gt1, gt2, Heap.lt gt2, dcA0])) | ((refine Ext.then1 (by assumption) ?_ ?_); rotate_left; · (intro p hp _; first | assumption | exact List.mem_cons_of_mem _ hp | (cases hp; done) | (simp at hp; subst hp; simp))))
def ffI (l : List Lk) (a b : Int) (q1 q2 : Nat) (σ0 : Heap) (m : Nat) (ts : List DV) (σ : Heap) : Prop := ∃ i, m = l.length + 1 - i ∧ i ≤ l.length ∧ (∀ y ∈ l.take i, ¬ (y.f0 = a ∧ y.f1 = b)) ∧ Ext [] σ0 σ ∧ TellsL ts (.imm (l.map eK) :: .fn (.func 31) [] [.ptr q1 0 0 1, .ptr q2 0 0 1] :: .any :: .any :: .any :: .any :: .any :: .sc (.int .i64 l.length) :: .sc (.int .i64 i) :: .any :: .any :: .any :: .any :: .any :: .any :: .any :: .any :: .any :: .any :: [])
theorem findF_ok (σ : Heap) (l : List Lk) (a b : Int) {q1 q2 : Nat} (gt1 : σ.get q1 = some ⟨[[.sc (.int .i64 a)]], 3, true⟩) (gt2 : σ.get q2 = some ⟨[[.sc (.int .i64 b)]], 3, true⟩) (hl : l.length ≤ 1000000) : ACalls Try.prog 30 [.imm (l.map eK), .fn (.func 31) [] [.ptr q1 0 0 1, .ptr q2 0 0 1]] σ (fun y σ' => y = .sc (.int .i64 (fnd l a b)) ∧ Ext [] σ σ') := by
  have dcml : (l.map eK).length = l.length := by simp
  refine ACalls.code hT Try.func30 rfl ?_
  simp only [Try.ntmps30, List.length_cons, List.length_nil, Nat.reduceSub, Nat.reduceAdd, List.replicate, List.cons_append, List.nil_append]
  repeat (first | (with_reducible refine AW.seq ?_) | (with_reducible refine AW.block ?_) | (with_reducible refine AW.skip ?_) | (with_reducible refine AW.ret ?_) | (with_reducible refine AW.exit ?_) | (with_reducible refine AW.reg hT ?_) | ((with_reducible refine AW.cond_true ?_ ?_); · rfl) | ((with_reducible refine AW.cond_false ?_ ?_); · rfl) | simp (maxSteps := 3000000) (maxDischargeDepth := 12) only [push_cast,appendX,reduceIte,reduceCtorEq,Nat.reduceSub,Nat.reduceAdd,Nat.reduceMul,Nat.reduceLT,Nat.reduceLeDiff,Nat.reduceEqDiff,Nat.reduceBEq,Int.reduceToNat,Int.reduceLT,Int.reduceLE,Int.reduceEq,Int.reduceNeg,Try.results30,gt1,Heap.lt gt1,gt2,Heap.lt gt2,dcml])
  refine AW.loop (ffI l a b q1 q2 σ) (m := l.length + 1) ⟨0, rfl, Nat.zero_le _, by simp, Ext.refl _ _, by (simp only [push_cast, TellsL, tells_any, tells_refl])⟩ ?_
  rintro m ts σ3 ⟨i, rfl, hil, hno, xt3, hts⟩
  refine AW.told hts ?_
  clear hts
  by_cases hi : i < l.length
  · have dci : decide ((i : Int) < (l.length : Int)) = true := by simp; omega
    have dci2 : ((i : Int) < (l.length : Int)) = True := by simp; omega
    have dci0 : ((0 : Int) ≤ (i : Int)) = True := by simp
    obtain ⟨x, hx⟩ : ∃ x, x = l[i] := ⟨_, rfl⟩
    have dcel : (l.map eK)[i]? = some (eK x) := by rw [List.getElem?_map, List.getElem?_eq_getElem hi, hx]; rfl
    rw [eK_eq] at dcel
    have dcw : IntKind.i64.wrap ((i : Int) + 1) = (i : Int) + 1 := wrap_i64 (by omega) (by omega)
    have hg1 := xt3.get gt1 (by simp)
    have hg2 := xt3.get gt2 (by simp)
    repeat (first | (with_reducible refine AW.seq ?_) | (with_reducible refine AW.block ?_) | (with_reducible refine AW.skip ?_) | (with_reducible refine AW.ret ?_) | (with_reducible refine AW.exit ?_) | (with_reducible refine AW.reg hT ?_) | ((with_reducible refine AW.cond_true ?_ ?_); · rfl) | ((with_reducible refine AW.cond_false ?_ ?_); · rfl) | simp (maxSteps := 3000000) (maxDischargeDepth := 12) only [push_cast,appendX,reduceIte,reduceCtorEq,Nat.reduceSub,Nat.reduceAdd,Nat.reduceMul,Nat.reduceLT,Nat.reduceLeDiff,Nat.reduceEqDiff,Nat.reduceBEq,Int.reduceToNat,Int.reduceLT,Int.reduceLE,Int.reduceEq,Int.reduceNeg,Try.results30,gt1,Heap.lt gt1,gt2,Heap.lt gt2,dcml,xt3.2,xt3.ltT,xt3.leT,dci,dci2,dci0,dcel,dcw])
    refine AOpsL.call (first := []) (cap := [.ptr q1 0 0 1, .ptr q2 0 0 1]) hT rfl rfl rfl fn31 rfl ((find1_ok _ x a b hg1 hg2).mono ?_)
    rintro y s' ⟨rfl, xt4⟩
    by_cases h1 : x.f0 = a ∧ x.f1 = b
    · have dc1 : decide (x.f0 = a ∧ x.f1 = b) = true := by simpa using h1
      rw [dc1]
      repeat (first | (with_reducible refine AW.seq ?_) | (with_reducible refine AW.block ?_) | (with_reducible refine AW.skip ?_) | (with_reducible refine AW.ret ?_) | (with_reducible refine AW.exit ?_) | (with_reducible refine AW.reg hT ?_) | ((with_reducible refine AW.cond_true ?_ ?_); · rfl) | ((with_reducible refine AW.cond_false ?_ ?_); · rfl) | simp (maxSteps := 3000000) (maxDischargeDepth := 12) only [push_cast,appendX,reduceIte,reduceCtorEq,Nat.reduceSub,Nat.reduceAdd,Nat.reduceMul,Nat.reduceLT,Nat.reduceLeDiff,Nat.reduceEqDiff,Nat.reduceBEq,Int.reduceToNat,Int.reduceLT,Int.reduceLE,Int.reduceEq,Int.reduceNeg,Try.results30,gt1,Heap.lt gt1,gt2,Heap.lt gt2,dcml,xt3.2,xt3.ltT,xt3.leT,dci,dci2,dci0,dcel,dcw,xt4.2,xt4.ltT,xt4.leT,dc1])
      exact ⟨by rw [fnd_at l a b i hi hno (by rw [← hx]; exact h1)], by repeat (first | exact Ext.refl _ _ | assumption | refine Ext.push ?_ _ | ((refine Ext.set ?_ ?_ _); rotate_left; · (simp (maxSteps := 3000000) (maxDischargeDepth := 12) only [push_cast, appendX, Nat.reduceAdd, Nat.reduceEqDiff, Nat.reduceLT, Nat.reduceLeDiff, reduceIte, reduceCtorEq, gt1, Heap.lt gt1, gt2, Heap.lt gt2, dcml, xt3.2, xt3.ltT, xt3.leT, dci, dci2, dci0, dcel, dcw, xt4.2, xt4.ltT, xt4.leT, dc1])) | ((refine Ext.then1 (by assumption) ?_ ?_); rotate_left; · (intro p hp _; first | assumption | exact List.mem_cons_of_mem _ hp | (cases hp; done) | (simp at hp; subst hp; simp))))⟩
    · have dc1 : decide (x.f0 = a ∧ x.f1 = b) = false := by simpa using h1
      have hno' : ∀ y ∈ l.take (i + 1), ¬ (y.f0 = a ∧ y.f1 = b) := by
        intro y hy
        rw [List.take_add_one, List.getElem?_eq_getElem hi, ← hx] at hy
        rcases List.mem_append.1 hy with hy | hy
        · exact hno y hy
        · simp at hy; rw [hy]; exact h1
      rw [dc1]
      repeat (first | (with_reducible refine AW.seq ?_) | (with_reducible refine AW.block ?_) | (with_reducible refine AW.skip ?_) | (with_reducible refine AW.ret ?_) | (with_reducible refine AW.exit ?_) | (with_reducible refine AW.reg hT ?_) | ((with_reducible refine AW.cond_true ?_ ?_); · rfl) | ((with_reducible refine AW.cond_false ?_ ?_); · rfl) | simp (maxSteps := 3000000) (maxDischargeDepth := 12) only [push_cast,appendX,reduceIte,reduceCtorEq,Nat.reduceSub,Nat.reduceAdd,Nat.reduceMul,Nat.reduceLT,Nat.reduceLeDiff,Nat.reduceEqDiff,Nat.reduceBEq,Int.reduceToNat,Int.reduceLT,Int.reduceLE,Int.reduceEq,Int.reduceNeg,Try.results30,gt1,Heap.lt gt1,gt2,Heap.lt gt2,dcml,xt3.2,xt3.ltT,xt3.leT,dci,dci2,dci0,dcel,dcw,xt4.2,xt4.ltT,xt4.leT,dc1])
      exact ⟨l.length + 1 - (i + 1), by omega, i + 1, rfl, hi, hno', by repeat (first | exact Ext.refl _ _ | assumption | refine Ext.push ?_ _ | ((refine Ext.set ?_ ?_ _); rotate_left; · (simp (maxSteps := 3000000) (maxDischargeDepth := 12) only [push_cast, appendX, Nat.reduceAdd, Nat.reduceEqDiff, Nat.reduceLT, Nat.reduceLeDiff, reduceIte, reduceCtorEq, gt1, Heap.lt gt1, gt2, Heap.lt gt2, dcml, xt3.2, xt3.ltT, xt3.leT, dci, dci2, dci0, dcel, dcw, xt4.2, xt4.ltT, xt4.leT, dc1])) | ((refine Ext.then1 (by assumption) ?_ ?_); rotate_left; · (intro p hp _; first | assumption | exact List.mem_cons_of_mem _ hp | (cases hp; done) | (simp at hp; subst hp; simp)))), by (simp only [push_cast, TellsL, tells_any, tells_refl])⟩
  · have dci : decide ((i : Int) < (l.length : Int)) = false := by simp; omega
    have he : i = l.length := by omega
    subst he
    rw [List.take_length] at hno
    repeat (first | (with_reducible refine AW.seq ?_) | (with_reducible refine AW.block ?_) | (with_reducible refine AW.skip ?_) | (with_reducible refine AW.ret ?_) | (with_reducible refine AW.exit ?_) | (with_reducible refine AW.reg hT ?_) | ((with_reducible refine AW.cond_true ?_ ?_); · rfl) | ((with_reducible refine AW.cond_false ?_ ?_); · rfl) | simp (maxSteps := 3000000) (maxDischargeDepth := 12) only [push_cast,appendX,reduceIte,reduceCtorEq,Nat.reduceSub,Nat.reduceAdd,Nat.reduceMul,Nat.reduceLT,Nat.reduceLeDiff,Nat.reduceEqDiff,Nat.reduceBEq,Int.reduceToNat,Int.reduceLT,Int.reduceLE,Int.reduceEq,Int.reduceNeg,Try.results30,gt1,Heap.lt gt1,gt2,Heap.lt gt2,dcml,xt3.2,xt3.ltT,xt3.leT,dci])
    exact ⟨by rw [fnd_none l a b hno], xt3⟩
theorem pfind_ok (σ : Heap) (l : List Lk) (a b : Int) (hl : l.length ≤ 1000000) : ACalls Try.prog 18 [.imm (l.map eK), .sc (.int .i64 a), .sc (.int .i64 b)] σ (fun y σ' => y = .sc (.int .i64 (fnd l a b)) ∧ Ext [] σ σ') := by
  refine ACalls.code hT Try.func18 rfl ?_
  simp only [Try.ntmps18, List.length_cons, List.length_nil, Nat.reduceSub, Nat.reduceAdd, List.replicate, List.cons_append, List.nil_append]
  repeat (first | (with_reducible refine AW.seq ?_) | (with_reducible refine AW.block ?_) | (with_reducible refine AW.skip ?_) | (with_reducible refine AW.ret ?_) | (with_reducible refine AW.exit ?_) | (with_reducible refine AW.reg hT ?_) | ((with_reducible refine AW.cond_true ?_ ?_); · rfl) | ((with_reducible refine AW.cond_false ?_ ?_); · rfl) | simp (maxSteps := 3000000) (maxDischargeDepth := 12) only [push_cast,appendX,reduceIte,reduceCtorEq,Nat.reduceSub,Nat.reduceAdd,Nat.reduceMul,Nat.reduceLT,Nat.reduceLeDiff,Nat.reduceEqDiff,Nat.reduceBEq,Int.reduceToNat,Int.reduceLT,Int.reduceLE,Int.reduceEq,Int.reduceNeg,Try.results18])
  refine AOpsL.call (first := []) (cap := []) hT rfl rfl rfl fn30 rfl (ACalls.mono (findF_ok _ l a b (q1 := σ.n) (q2 := σ.n + 1) (by simp (maxSteps := 3000000) (maxDischargeDepth := 12) only [push_cast, appendX, Nat.reduceAdd, Nat.reduceEqDiff, Nat.reduceLT, Nat.reduceLeDiff, reduceIte, reduceCtorEq]) (by simp (maxSteps := 3000000) (maxDischargeDepth := 12) only [push_cast, appendX, Nat.reduceAdd, Nat.reduceEqDiff, Nat.reduceLT, Nat.reduceLeDiff, reduceIte, reduceCtorEq]) hl) ?_)
  rintro y σ1 ⟨rfl, xt1⟩
  repeat (first | (with_reducible refine AW.seq ?_) | (with_reducible refine AW.block ?_) | (with_reducible refine AW.skip ?_) | (with_reducible refine AW.ret ?_) | (with_reducible refine AW.exit ?_) | (with_reducible refine AW.reg hT ?_) | ((with_reducible refine AW.cond_true ?_ ?_); · rfl) | ((with_reducible refine AW.cond_false ?_ ?_); · rfl) | simp (maxSteps := 3000000) (maxDischargeDepth := 12) only [push_cast,appendX,reduceIte,reduceCtorEq,Nat.reduceSub,Nat.reduceAdd,Nat.reduceMul,Nat.reduceLT,Nat.reduceLeDiff,Nat.reduceEqDiff,Nat.reduceBEq,Int.reduceToNat,Int.reduceLT,Int.reduceLE,Int.reduceEq,Int.reduceNeg,Try.results18,xt1.2,xt1.ltT,xt1.leT])
  repeat (first | exact Ext.refl _ _ | assumption | refine Ext.push ?_ _ | ((refine Ext.set ?_ ?_ _); rotate_left; · (simp (maxSteps := 3000000) (maxDischargeDepth := 12) only [push_cast, appendX, Nat.reduceAdd, Nat.reduceEqDiff, Nat.reduceLT, Nat.reduceLeDiff, reduceIte, reduceCtorEq, xt1.2, xt1.ltT, xt1.leT])) | ((refine Ext.then1 (by assumption) ?_ ?_); rotate_left; · (intro p hp _; first | assumption | exact List.mem_cons_of_mem _ hp | (cases hp; done) | (simp at hp; subst hp; simp))))
def smallL (l : List Lk) : Prop := ∀ x ∈ l, -1099511627776 ≤ x.f3 ∧ x.f3 ≤ 1099511627776
/-- What the first nodes of a route cost. -/
def rtG (l : List Lk) (r : List Int) : Nat → Option Int
  | 0 => some 0
  | i + 1 => match rtG l r i with
    | none => none
    | some n => if r.getD i 0 ∈ r.take i then none else if i = 0 then some n else if fnd l (r.getD (i - 1) 0) (r.getD i 0) < 0 then none else match l[(fnd l (r.getD (i - 1) 0) (r.getD i 0)).toNat]? with
      | some x => some (n + x.f3)
      | none => none
def rtv (l : List Lk) (r : List Int) : Int × Int := if r.length < 2 ∨ 16 < r.length then (0, 12) else match rtG l r r.length with
  | some n => (n, 0)
  | none => (0, 12)
theorem fnd_lt (l : List Lk) (a b : Int) (h : 0 ≤ fnd l a b) : ∃ x, l[(fnd l a b).toNat]? = some x ∧ x.f0 = a ∧ x.f1 = b := by
  unfold fnd at h ⊢
  cases hf : l.findIdx? (fun x => decide (x.f0 = a ∧ x.f1 = b)) with
  | none => rw [hf] at h; simp at h
  | some i =>
    obtain ⟨h1, h2, _⟩ := List.findIdx?_eq_some_iff_getElem.1 hf
    simp only [Int.toNat_natCast]
    exact ⟨l[i], List.getElem?_eq_getElem h1, by simpa using h2⟩
theorem rtG_none {l : List Lk} {r : List Int} {i : Nat} (h : rtG l r i = none) : ∀ j, i ≤ j → rtG l r j = none := by
  intro j hj
  induction j with
  | zero =>
    have : i = 0 := by omega
    subst this; exact h
  | succ j ih =>
    by_cases hij : i = j + 1
    · subst hij; exact h
    · have := ih (by omega)
      simp only [rtG, this]
theorem rtG_bound {l : List Lk} (hs : smallL l) {r : List Int} : ∀ {i : Nat} {n : Int}, rtG l r i = some n → -1099511627776 * (i : Int) ≤ n ∧ n ≤ 1099511627776 * (i : Int)
  | 0, n, h => by simp [rtG] at h; omega
  | i + 1, n, h => by
    unfold rtG at h
    split at h
    · cases h
    · rename_i m hm
      have := rtG_bound hs hm
      split at h
      · cases h
      · split at h
        · cases h; push_cast; omega
        · split at h
          · cases h
          · split at h
            · rename_i x hx
              cases h
              have := hs x (List.mem_of_getElem? hx)
              push_cast; omega
            · cases h
theorem rtv_none {l : List Lk} {r : List Int} (h2 : 2 ≤ r.length) (h16 : r.length ≤ 16) {i : Nat} (hi : i ≤ r.length) (h : rtG l r i = none) : rtv l r = (0, 12) := by
  unfold rtv
  rw [if_neg (by omega), rtG_none h _ hi]
theorem rtv_some {l : List Lk} {r : List Int} (h2 : 2 ≤ r.length) (h16 : r.length ≤ 16) {n : Int} (h : rtG l r r.length = some n) : rtv l r = (n, 0) := by
  unfold rtv
  rw [if_neg (by omega), h]
theorem rtG_step {l : List Lk} {r : List Int} {i : Nat} (n : Int) (h : rtG l r i = some n) (x : Int) (hx : r[i]? = some x) : rtG l r (i + 1) = if x ∈ r.take i then none else if i = 0 then some n else if fnd l (r.getD (i - 1) 0) x < 0 then none else match l[(fnd l (r.getD (i - 1) 0) x).toNat]? with
      | some y => some (n + y.f3)
      | none => none := by
  have hg : r.getD i 0 = x := by simp [List.getD_eq_getElem?_getD, hx]
  simp only [rtG, h, hg]
def prI (l : List Lk) (r : List Int) (σ0 : Heap) (m : Nat) (ts : List DV) (σ : Heap) : Prop := ∃ i n, m = r.length + 1 - i ∧ i ≤ r.length ∧ rtG l r i = some n ∧ Ext [] σ0 σ ∧ TellsL ts (.imm (l.map eK) :: .imm (r.map eZ) :: .any :: .any :: .any :: .any :: .sc (.int .i64 n) :: .any :: .any :: .any :: .any :: .any :: .any :: .any :: .any :: .any :: .any :: .any :: .imm (r.map eZ) :: .sc (.int .i64 r.length) :: .sc (.int .i64 i) :: .any :: .any :: .any :: .any :: .any :: .any :: .any :: .any :: .any :: .any :: .any :: .any :: .any :: .any :: .any :: .any :: .any :: .any :: .any :: .any :: .any :: .any :: .any :: .any :: .any :: .any :: .any :: .any :: .any :: .any :: [])
theorem proute_ok (σ : Heap) (l : List Lk) (r : List Int) (hs : smallL l) (hl : l.length ≤ 1000000) : ACalls Try.prog 11 [.imm (l.map eK), .imm (r.map eZ)] σ (fun y σ' => y = .tup [.sc (.int .i64 (rtv l r).1), .sc (.int .i64 (rtv l r).2)] ∧ Ext [] σ σ') := by
  have dcml : (l.map eK).length = l.length := by simp
  have dcmr : (r.map eZ).length = r.length := by simp
  refine ACalls.code hT Try.func11 rfl ?_
  simp only [Try.ntmps11, List.length_cons, List.length_nil, Nat.reduceSub, Nat.reduceAdd, List.replicate, List.cons_append, List.nil_append]
  by_cases h2 : r.length < 2
  · have dc2 : decide ((r.length : Int) < 2) = true := decide_eq_true (by omega)
    have e : rtv l r = (0, 12) := by unfold rtv; rw [if_pos (.inl h2)]
    repeat (first | (with_reducible refine AW.seq ?_) | (with_reducible refine AW.block ?_) | (with_reducible refine AW.skip ?_) | (with_reducible refine AW.ret ?_) | (with_reducible refine AW.exit ?_) | (with_reducible refine AW.reg hT ?_) | ((with_reducible refine AW.cond_true ?_ ?_); · rfl) | ((with_reducible refine AW.cond_false ?_ ?_); · rfl) | simp (maxSteps := 3000000) (maxDischargeDepth := 12) only [push_cast,appendX,reduceIte,reduceCtorEq,Nat.reduceSub,Nat.reduceAdd,Nat.reduceMul,Nat.reduceLT,Nat.reduceLeDiff,Nat.reduceEqDiff,Nat.reduceBEq,Int.reduceToNat,Int.reduceLT,Int.reduceLE,Int.reduceEq,Int.reduceNeg,Try.results11,dcml,dcmr,dc2])
    rw [e]
    exact ⟨rfl, Ext.refl _ _⟩
  have dc2 : decide ((r.length : Int) < 2) = false := decide_eq_false (by omega)
  by_cases h16 : 16 < r.length
  · have dc16 : decide (16 < (r.length : Int)) = true := decide_eq_true (by omega)
    have e : rtv l r = (0, 12) := by unfold rtv; rw [if_pos (.inr h16)]
    repeat (first | (with_reducible refine AW.seq ?_) | (with_reducible refine AW.block ?_) | (with_reducible refine AW.skip ?_) | (with_reducible refine AW.ret ?_) | (with_reducible refine AW.exit ?_) | (with_reducible refine AW.reg hT ?_) | ((with_reducible refine AW.cond_true ?_ ?_); · rfl) | ((with_reducible refine AW.cond_false ?_ ?_); · rfl) | simp (maxSteps := 3000000) (maxDischargeDepth := 12) only [push_cast,appendX,reduceIte,reduceCtorEq,Nat.reduceSub,Nat.reduceAdd,Nat.reduceMul,Nat.reduceLT,Nat.reduceLeDiff,Nat.reduceEqDiff,Nat.reduceBEq,Int.reduceToNat,Int.reduceLT,Int.reduceLE,Int.reduceEq,Int.reduceNeg,Try.results11,dcml,dcmr,dc2,dc16])
    rw [e]
    exact ⟨rfl, Ext.refl _ _⟩
  have dc16 : decide (16 < (r.length : Int)) = false := decide_eq_false (by omega)
  repeat (first | (with_reducible refine AW.seq ?_) | (with_reducible refine AW.block ?_) | (with_reducible refine AW.skip ?_) | (with_reducible refine AW.ret ?_) | (with_reducible refine AW.exit ?_) | (with_reducible refine AW.reg hT ?_) | ((with_reducible refine AW.cond_true ?_ ?_); · rfl) | ((with_reducible refine AW.cond_false ?_ ?_); · rfl) | simp (maxSteps := 3000000) (maxDischargeDepth := 12) only [push_cast,appendX,reduceIte,reduceCtorEq,Nat.reduceSub,Nat.reduceAdd,Nat.reduceMul,Nat.reduceLT,Nat.reduceLeDiff,Nat.reduceEqDiff,Nat.reduceBEq,Int.reduceToNat,Int.reduceLT,Int.reduceLE,Int.reduceEq,Int.reduceNeg,Try.results11,dcml,dcmr,dc2,dc16])
  refine AW.loop (prI l r σ) (m := r.length + 1) ⟨0, 0, rfl, Nat.zero_le _, rfl, Ext.refl _ _, by (simp only [push_cast, TellsL, tells_any, tells_refl])⟩ ?_
  rintro m ts σ3 ⟨i, n, rfl, hil, hrt, xt3, hts⟩
  refine AW.told hts ?_
  clear hts
  by_cases hi : i < r.length
  · have dci : decide ((i : Int) < (r.length : Int)) = true := decide_eq_true (by omega)
    have dci2 : ((i : Int) < (r.length : Int)) = True := by simp; omega
    have dci0 : ((0 : Int) ≤ (i : Int)) = True := by simp
    have dcil : ((i : Int) ≤ (r.length : Int)) = True := by simp; omega
    obtain ⟨x, hx⟩ : ∃ x, r[i]? = some x := ⟨_, List.getElem?_eq_getElem hi⟩
    have dcel : (r.map eZ)[i]? = some [.sc (.int .i64 x)] := by rw [List.getElem?_map, hx]; rfl
    have dcw : IntKind.i64.wrap ((i : Int) + 1) = (i : Int) + 1 := wrap_i64 (by omega) (by omega)
    have dcall : ((r.map eZ).all fun el => el.length == 1) = true := by simp [eZ]
    have dctk : (r.map eZ).take i = (r.take i).map eZ := by simp
    have hstep := rtG_step n hrt x hx
    repeat (first | (with_reducible refine AW.seq ?_) | (with_reducible refine AW.block ?_) | (with_reducible refine AW.skip ?_) | (with_reducible refine AW.ret ?_) | (with_reducible refine AW.exit ?_) | (with_reducible refine AW.reg hT ?_) | ((with_reducible refine AW.cond_true ?_ ?_); · rfl) | ((with_reducible refine AW.cond_false ?_ ?_); · rfl) | simp (maxSteps := 3000000) (maxDischargeDepth := 12) only [push_cast,appendX,reduceIte,reduceCtorEq,Nat.reduceSub,Nat.reduceAdd,Nat.reduceMul,Nat.reduceLT,Nat.reduceLeDiff,Nat.reduceEqDiff,Nat.reduceBEq,Int.reduceToNat,Int.reduceLT,Int.reduceLE,Int.reduceEq,Int.reduceNeg,Try.results11,dcml,dcmr,dc2,dc16,xt3.2,xt3.ltT,xt3.leT,dci,dci2,dci0,dcil,dcel,dcw,dcall,dctk])
    refine AOpsL.call (first := []) (cap := []) hT rfl rfl rfl fn25 rfl (ACalls.mono (contains_ok _ (r.take i) x (by rw [List.length_take]; omega)) ?_)
    rintro y s ⟨rfl, rfl⟩
    by_cases hm : x ∈ r.take i
    · have dcm : decide (x ∈ r.take i) = true := decide_eq_true hm
      have e := rtv_none (by omega) (by omega) hi (by rw [hstep, if_pos hm])
      repeat (first | (with_reducible refine AW.seq ?_) | (with_reducible refine AW.block ?_) | (with_reducible refine AW.skip ?_) | (with_reducible refine AW.ret ?_) | (with_reducible refine AW.exit ?_) | (with_reducible refine AW.reg hT ?_) | ((with_reducible refine AW.cond_true ?_ ?_); · rfl) | ((with_reducible refine AW.cond_false ?_ ?_); · rfl) | simp (maxSteps := 3000000) (maxDischargeDepth := 12) only [push_cast,appendX,reduceIte,reduceCtorEq,Nat.reduceSub,Nat.reduceAdd,Nat.reduceMul,Nat.reduceLT,Nat.reduceLeDiff,Nat.reduceEqDiff,Nat.reduceBEq,Int.reduceToNat,Int.reduceLT,Int.reduceLE,Int.reduceEq,Int.reduceNeg,Try.results11,dcml,dcmr,dc2,dc16,xt3.2,xt3.ltT,xt3.leT,dci,dci2,dci0,dcil,dcel,dcw,dcall,dctk,dcm])
      rw [e]
      exact ⟨rfl, xt3⟩
    have dcm : decide (x ∈ r.take i) = false := decide_eq_false hm
    rw [if_neg hm] at hstep
    by_cases hi0 : i = 0
    · have dcz : ((i : Int) == 0) = true := by simp [hi0]
      rw [if_pos hi0] at hstep
      repeat (first | (with_reducible refine AW.seq ?_) | (with_reducible refine AW.block ?_) | (with_reducible refine AW.skip ?_) | (with_reducible refine AW.ret ?_) | (with_reducible refine AW.exit ?_) | (with_reducible refine AW.reg hT ?_) | ((with_reducible refine AW.cond_true ?_ ?_); · rfl) | ((with_reducible refine AW.cond_false ?_ ?_); · rfl) | simp (maxSteps := 3000000) (maxDischargeDepth := 12) only [push_cast,appendX,reduceIte,reduceCtorEq,Nat.reduceSub,Nat.reduceAdd,Nat.reduceMul,Nat.reduceLT,Nat.reduceLeDiff,Nat.reduceEqDiff,Nat.reduceBEq,Int.reduceToNat,Int.reduceLT,Int.reduceLE,Int.reduceEq,Int.reduceNeg,Try.results11,dcml,dcmr,dc2,dc16,xt3.2,xt3.ltT,xt3.leT,dci,dci2,dci0,dcil,dcel,dcw,dcall,dctk,dcm,dcz])
      exact ⟨r.length + 1 - (i + 1), by omega, i + 1, n, rfl, hi, hstep, xt3, by (simp only [push_cast, TellsL, tells_any, tells_refl])⟩
    have dcz : ((i : Int) == 0) = false := by simp [hi0]
    rw [if_neg hi0] at hstep
    obtain ⟨j, hj⟩ : ∃ j, j = i - 1 := ⟨_, rfl⟩
    obtain ⟨w, hw⟩ : ∃ w, r[j]? = some w := ⟨_, List.getElem?_eq_getElem (by omega)⟩
    have hgw : r.getD (i - 1) 0 = w := by rw [← hj]; simp [List.getD_eq_getElem?_getD, hw]
    rw [hgw] at hstep
    have dcw1 : IntKind.i64.wrap ((i : Int) - 1) = (i : Int) - 1 := wrap_i64 (by omega) (by omega)
    have dcj1 : ((i : Int) - 1 < (r.length : Int)) = True := by simp; omega
    have dcj0 : ((0 : Int) ≤ (i : Int) - 1) = True := by simp; omega
    have dcjt : ((i : Int) - 1).toNat = j := by omega
    have dcep : (r.map eZ)[j]? = some [.sc (.int .i64 w)] := by rw [List.getElem?_map, hw]; rfl
    repeat (first | (with_reducible refine AW.seq ?_) | (with_reducible refine AW.block ?_) | (with_reducible refine AW.skip ?_) | (with_reducible refine AW.ret ?_) | (with_reducible refine AW.exit ?_) | (with_reducible refine AW.reg hT ?_) | ((with_reducible refine AW.cond_true ?_ ?_); · rfl) | ((with_reducible refine AW.cond_false ?_ ?_); · rfl) | simp (maxSteps := 3000000) (maxDischargeDepth := 12) only [push_cast,appendX,reduceIte,reduceCtorEq,Nat.reduceSub,Nat.reduceAdd,Nat.reduceMul,Nat.reduceLT,Nat.reduceLeDiff,Nat.reduceEqDiff,Nat.reduceBEq,Int.reduceToNat,Int.reduceLT,Int.reduceLE,Int.reduceEq,Int.reduceNeg,Try.results11,dcml,dcmr,dc2,dc16,xt3.2,xt3.ltT,xt3.leT,dci,dci2,dci0,dcil,dcel,dcw,dcall,dctk,dcm,dcz,dcw1,dcj1,dcj0,dcjt,dcep])
    refine AOpsL.call (first := []) (cap := []) hT rfl rfl rfl fn18 rfl (ACalls.mono (pfind_ok _ l w x hl) ?_)
    rintro y s ⟨rfl, xt4⟩
    by_cases hf : fnd l w x < 0
    · have dcf : decide (fnd l w x < 0) = true := decide_eq_true hf
      have e := rtv_none (by omega) (by omega) hi (by rw [hstep, if_pos hf])
      repeat (first | (with_reducible refine AW.seq ?_) | (with_reducible refine AW.block ?_) | (with_reducible refine AW.skip ?_) | (with_reducible refine AW.ret ?_) | (with_reducible refine AW.exit ?_) | (with_reducible refine AW.reg hT ?_) | ((with_reducible refine AW.cond_true ?_ ?_); · rfl) | ((with_reducible refine AW.cond_false ?_ ?_); · rfl) | simp (maxSteps := 3000000) (maxDischargeDepth := 12) only [push_cast,appendX,reduceIte,reduceCtorEq,Nat.reduceSub,Nat.reduceAdd,Nat.reduceMul,Nat.reduceLT,Nat.reduceLeDiff,Nat.reduceEqDiff,Nat.reduceBEq,Int.reduceToNat,Int.reduceLT,Int.reduceLE,Int.reduceEq,Int.reduceNeg,Try.results11,dcml,dcmr,dc2,dc16,xt3.2,xt3.ltT,xt3.leT,dci,dci2,dci0,dcil,dcel,dcw,dcall,dctk,dcm,dcz,dcw1,dcj1,dcj0,dcjt,dcep,xt4.2,xt4.ltT,xt4.leT,dcf])
      rw [e]
      exact ⟨rfl, xt3.trans xt4⟩
    have dcf : decide (fnd l w x < 0) = false := decide_eq_false hf
    rw [if_neg hf] at hstep
    obtain ⟨z, hz, _⟩ := fnd_lt l w x (by omega)
    have hzl := (List.getElem?_eq_some_iff.1 hz).1
    rw [hz] at hstep
    have dck1 : (fnd l w x < (l.length : Int)) = True := by simp; omega
    have dck0 : (0 ≤ fnd l w x) = True := by simp; omega
    have dcek : (l.map eK)[(fnd l w x).toNat]? = some (eK z) := by rw [List.getElem?_map, hz]; rfl
    rw [eK_eq] at dcek
    have hbn := rtG_bound hs hstep
    have dcwn : IntKind.i64.wrap (n + z.f3) = n + z.f3 := wrap_i64 (by omega) (by omega)
    repeat (first | (with_reducible refine AW.seq ?_) | (with_reducible refine AW.block ?_) | (with_reducible refine AW.skip ?_) | (with_reducible refine AW.ret ?_) | (with_reducible refine AW.exit ?_) | (with_reducible refine AW.reg hT ?_) | ((with_reducible refine AW.cond_true ?_ ?_); · rfl) | ((with_reducible refine AW.cond_false ?_ ?_); · rfl) | simp (maxSteps := 3000000) (maxDischargeDepth := 12) only [push_cast,appendX,reduceIte,reduceCtorEq,Nat.reduceSub,Nat.reduceAdd,Nat.reduceMul,Nat.reduceLT,Nat.reduceLeDiff,Nat.reduceEqDiff,Nat.reduceBEq,Int.reduceToNat,Int.reduceLT,Int.reduceLE,Int.reduceEq,Int.reduceNeg,Try.results11,dcml,dcmr,dc2,dc16,xt3.2,xt3.ltT,xt3.leT,dci,dci2,dci0,dcil,dcel,dcw,dcall,dctk,dcm,dcz,dcw1,dcj1,dcj0,dcjt,dcep,xt4.2,xt4.ltT,xt4.leT,dcf,dck1,dck0,dcek,dcwn])
    exact ⟨r.length + 1 - (i + 1), by omega, i + 1, n + z.f3, rfl, hi, hstep, xt3.trans xt4, by (simp only [push_cast, TellsL, tells_any, tells_refl])⟩
  · have dci : decide ((i : Int) < (r.length : Int)) = false := decide_eq_false (by omega)
    have he : i = r.length := by omega
    subst he
    have e := rtv_some (by omega) (by omega) hrt
    repeat (first | (with_reducible refine AW.seq ?_) | (with_reducible refine AW.block ?_) | (with_reducible refine AW.skip ?_) | (with_reducible refine AW.ret ?_) | (with_reducible refine AW.exit ?_) | (with_reducible refine AW.reg hT ?_) | ((with_reducible refine AW.cond_true ?_ ?_); · rfl) | ((with_reducible refine AW.cond_false ?_ ?_); · rfl) | simp (maxSteps := 3000000) (maxDischargeDepth := 12) only [push_cast,appendX,reduceIte,reduceCtorEq,Nat.reduceSub,Nat.reduceAdd,Nat.reduceMul,Nat.reduceLT,Nat.reduceLeDiff,Nat.reduceEqDiff,Nat.reduceBEq,Int.reduceToNat,Int.reduceLT,Int.reduceLE,Int.reduceEq,Int.reduceNeg,Try.results11,dcml,dcmr,dc2,dc16,xt3.2,xt3.ltT,xt3.leT,dci])
    rw [e]
    exact ⟨rfl, xt3⟩
def rrI (l : List Lk) (r : List Int) (σ0 : Heap) (m : Nat) (ts : List DV) (σ : Heap) : Prop := ∃ i n, m = r.length + 1 - i ∧ i ≤ r.length ∧ rtG l r i = some n ∧ Ext [] σ0 σ ∧ TellsL ts (.imm (l.map eK) :: .imm (r.map eZ) :: .any :: .any :: .any :: .any :: .sc (.int .i64 n) :: .sc (.int .i64 i) :: .any :: .any :: .any :: .any :: .any :: .any :: .any :: .any :: .any :: .any :: .any :: .any :: .any :: .any :: .any :: .any :: .any :: .any :: .any :: .any :: .any :: .any :: .any :: .any :: .any :: .any :: .any :: .any :: .any :: .any :: .any :: .any :: .any :: .any :: .any :: .any :: .any :: .any :: .any :: .any :: .any :: .any :: .any :: .any :: .any :: .any :: [])
theorem rroute_ok (σ : Heap) (l : List Lk) (r : List Int) (hs : smallL l) (hl : l.length ≤ 1000000) : ACalls Try.prog 12 [.imm (l.map eK), .imm (r.map eZ)] σ (fun y σ' => y = .tup [.sc (.int .i64 (rtv l r).1), .sc (.int .i64 (rtv l r).2)] ∧ Ext [] σ σ') := by
  have dcml : (l.map eK).length = l.length := by simp
  have dcmr : (r.map eZ).length = r.length := by simp
  refine ACalls.code hT Try.func12 rfl ?_
  simp only [Try.ntmps12, List.length_cons, List.length_nil, Nat.reduceSub, Nat.reduceAdd, List.replicate, List.cons_append, List.nil_append]
  by_cases h2 : r.length < 2
  · have dc2 : decide ((r.length : Int) < 2) = true := decide_eq_true (by omega)
    have e : rtv l r = (0, 12) := by unfold rtv; rw [if_pos (.inl h2)]
    repeat (first | (with_reducible refine AW.seq ?_) | (with_reducible refine AW.block ?_) | (with_reducible refine AW.skip ?_) | (with_reducible refine AW.ret ?_) | (with_reducible refine AW.exit ?_) | (with_reducible refine AW.reg hT ?_) | (with_reducible refine AW.drawn (id := 7) hT [0,1,2,3,4,5,6,7] [[],[],[0,1],[],[],[3,4],[3,4,5],[0,1,2,3,4,5,6]] mix (by kernel_rfl) ?_) | (with_reducible refine AW.drawn (id := 10) hT [0,1,2,3,4,5,6,7,8,9,10,11] [[],[],[],[2],[1,2,3],[1,2,3,4],[],[],[6,7],[6,7,8],[0,1,2,3,4,5,6,7,8,9],[0,1,2,3,4,5,6,7,8,9,10]] mix (by kernel_rfl) ?_) | ((with_reducible show DLeft _ _ _ _ (_ :: _) _ _ _ _); (with_reducible apply DLeft.step hT); (case hoi => ((simp only [List.getElem?_toArray,List.getElem?_cons_zero,List.getElem?_cons_succ]); with_reducible rfl)); (case hg => rfl); (case hk => rfl); (case hr => ((try simp (maxSteps := 3000000) (maxDischargeDepth := 12) only [push_cast,appendX,reduceIte,reduceCtorEq,Nat.reduceSub,Nat.reduceAdd,Nat.reduceMul,Nat.reduceLT,Nat.reduceLeDiff,Nat.reduceEqDiff,Nat.reduceBEq,Int.reduceToNat,Int.reduceLT,Int.reduceLE,Int.reduceEq,Int.reduceNeg,Try.results12,dcml,dcmr,dc2]); with_reducible rfl))) | ((with_reducible refine AW.cond_true ?_ ?_); · rfl) | ((with_reducible refine AW.cond_false ?_ ?_); · rfl) | simp (maxSteps := 3000000) (maxDischargeDepth := 12) only [push_cast,appendX,reduceIte,reduceCtorEq,Nat.reduceSub,Nat.reduceAdd,Nat.reduceMul,Nat.reduceLT,Nat.reduceLeDiff,Nat.reduceEqDiff,Nat.reduceBEq,Int.reduceToNat,Int.reduceLT,Int.reduceLE,Int.reduceEq,Int.reduceNeg,Try.results12,dcml,dcmr,dc2])
    rw [e]
    exact ⟨rfl, Ext.refl _ _⟩
  have dc2 : decide ((r.length : Int) < 2) = false := decide_eq_false (by omega)
  by_cases h16 : 16 < r.length
  · have dc16 : decide (16 < (r.length : Int)) = true := decide_eq_true (by omega)
    have e : rtv l r = (0, 12) := by unfold rtv; rw [if_pos (.inr h16)]
    repeat (first | (with_reducible refine AW.seq ?_) | (with_reducible refine AW.block ?_) | (with_reducible refine AW.skip ?_) | (with_reducible refine AW.ret ?_) | (with_reducible refine AW.exit ?_) | (with_reducible refine AW.reg hT ?_) | (with_reducible refine AW.drawn (id := 7) hT [0,1,2,3,4,5,6,7] [[],[],[0,1],[],[],[3,4],[3,4,5],[0,1,2,3,4,5,6]] mix (by kernel_rfl) ?_) | (with_reducible refine AW.drawn (id := 10) hT [0,1,2,3,4,5,6,7,8,9,10,11] [[],[],[],[2],[1,2,3],[1,2,3,4],[],[],[6,7],[6,7,8],[0,1,2,3,4,5,6,7,8,9],[0,1,2,3,4,5,6,7,8,9,10]] mix (by kernel_rfl) ?_) | ((with_reducible show DLeft _ _ _ _ (_ :: _) _ _ _ _); (with_reducible apply DLeft.step hT); (case hoi => ((simp only [List.getElem?_toArray,List.getElem?_cons_zero,List.getElem?_cons_succ]); with_reducible rfl)); (case hg => rfl); (case hk => rfl); (case hr => ((try simp (maxSteps := 3000000) (maxDischargeDepth := 12) only [push_cast,appendX,reduceIte,reduceCtorEq,Nat.reduceSub,Nat.reduceAdd,Nat.reduceMul,Nat.reduceLT,Nat.reduceLeDiff,Nat.reduceEqDiff,Nat.reduceBEq,Int.reduceToNat,Int.reduceLT,Int.reduceLE,Int.reduceEq,Int.reduceNeg,Try.results12,dcml,dcmr,dc2,dc16]); with_reducible rfl))) | ((with_reducible refine AW.cond_true ?_ ?_); · rfl) | ((with_reducible refine AW.cond_false ?_ ?_); · rfl) | simp (maxSteps := 3000000) (maxDischargeDepth := 12) only [push_cast,appendX,reduceIte,reduceCtorEq,Nat.reduceSub,Nat.reduceAdd,Nat.reduceMul,Nat.reduceLT,Nat.reduceLeDiff,Nat.reduceEqDiff,Nat.reduceBEq,Int.reduceToNat,Int.reduceLT,Int.reduceLE,Int.reduceEq,Int.reduceNeg,Try.results12,dcml,dcmr,dc2,dc16])
    rw [e]
    exact ⟨rfl, Ext.refl _ _⟩
  have dc16 : decide (16 < (r.length : Int)) = false := decide_eq_false (by omega)
  repeat (first | (with_reducible refine AW.seq ?_) | (with_reducible refine AW.block ?_) | (with_reducible refine AW.skip ?_) | (with_reducible refine AW.ret ?_) | (with_reducible refine AW.exit ?_) | (with_reducible refine AW.reg hT ?_) | (with_reducible refine AW.drawn (id := 7) hT [0,1,2,3,4,5,6,7] [[],[],[0,1],[],[],[3,4],[3,4,5],[0,1,2,3,4,5,6]] mix (by kernel_rfl) ?_) | (with_reducible refine AW.drawn (id := 10) hT [0,1,2,3,4,5,6,7,8,9,10,11] [[],[],[],[2],[1,2,3],[1,2,3,4],[],[],[6,7],[6,7,8],[0,1,2,3,4,5,6,7,8,9],[0,1,2,3,4,5,6,7,8,9,10]] mix (by kernel_rfl) ?_) | ((with_reducible show DLeft _ _ _ _ (_ :: _) _ _ _ _); (with_reducible apply DLeft.step hT); (case hoi => ((simp only [List.getElem?_toArray,List.getElem?_cons_zero,List.getElem?_cons_succ]); with_reducible rfl)); (case hg => rfl); (case hk => rfl); (case hr => ((try simp (maxSteps := 3000000) (maxDischargeDepth := 12) only [push_cast,appendX,reduceIte,reduceCtorEq,Nat.reduceSub,Nat.reduceAdd,Nat.reduceMul,Nat.reduceLT,Nat.reduceLeDiff,Nat.reduceEqDiff,Nat.reduceBEq,Int.reduceToNat,Int.reduceLT,Int.reduceLE,Int.reduceEq,Int.reduceNeg,Try.results12,dcml,dcmr,dc2,dc16]); with_reducible rfl))) | ((with_reducible refine AW.cond_true ?_ ?_); · rfl) | ((with_reducible refine AW.cond_false ?_ ?_); · rfl) | simp (maxSteps := 3000000) (maxDischargeDepth := 12) only [push_cast,appendX,reduceIte,reduceCtorEq,Nat.reduceSub,Nat.reduceAdd,Nat.reduceMul,Nat.reduceLT,Nat.reduceLeDiff,Nat.reduceEqDiff,Nat.reduceBEq,Int.reduceToNat,Int.reduceLT,Int.reduceLE,Int.reduceEq,Int.reduceNeg,Try.results12,dcml,dcmr,dc2,dc16])
  refine AW.loop (rrI l r σ) (m := r.length + 1) ⟨0, 0, rfl, Nat.zero_le _, rfl, Ext.refl _ _, by (simp only [push_cast, TellsL, tells_any, tells_refl])⟩ ?_
  rintro m ts σ3 ⟨i, n, rfl, hil, hrt, xt3, hts⟩
  refine AW.told hts ?_
  clear hts
  by_cases hi : i < r.length
  · have dci : decide ((i : Int) < (r.length : Int)) = true := decide_eq_true (by omega)
    have dci2 : ((i : Int) < (r.length : Int)) = True := by simp; omega
    have dci0 : ((0 : Int) ≤ (i : Int)) = True := by simp
    have dcil : ((i : Int) ≤ (r.length : Int)) = True := by simp; omega
    obtain ⟨x, hx⟩ : ∃ x, r[i]? = some x := ⟨_, List.getElem?_eq_getElem hi⟩
    have dcel : (r.map eZ)[i]? = some [.sc (.int .i64 x)] := by rw [List.getElem?_map, hx]; rfl
    have dcw : IntKind.i64.wrap ((i : Int) + 1) = (i : Int) + 1 := wrap_i64 (by omega) (by omega)
    have dcall : ((r.map eZ).all fun el => el.length == 1) = true := by simp [eZ]
    have dctk : (r.map eZ).take i = (r.take i).map eZ := by simp
    have hstep := rtG_step n hrt x hx
    repeat (first | (with_reducible refine AW.seq ?_) | (with_reducible refine AW.block ?_) | (with_reducible refine AW.skip ?_) | (with_reducible refine AW.ret ?_) | (with_reducible refine AW.exit ?_) | (with_reducible refine AW.reg hT ?_) | (with_reducible refine AW.drawn (id := 7) hT [0,1,2,3,4,5,6,7] [[],[],[0,1],[],[],[3,4],[3,4,5],[0,1,2,3,4,5,6]] mix (by kernel_rfl) ?_) | (with_reducible refine AW.drawn (id := 10) hT [0,1,2,3,4,5,6,7,8,9,10,11] [[],[],[],[2],[1,2,3],[1,2,3,4],[],[],[6,7],[6,7,8],[0,1,2,3,4,5,6,7,8,9],[0,1,2,3,4,5,6,7,8,9,10]] mix (by kernel_rfl) ?_) | ((with_reducible show DLeft _ _ _ _ (_ :: _) _ _ _ _); (with_reducible apply DLeft.step hT); (case hoi => ((simp only [List.getElem?_toArray,List.getElem?_cons_zero,List.getElem?_cons_succ]); with_reducible rfl)); (case hg => rfl); (case hk => rfl); (case hr => ((try simp (maxSteps := 3000000) (maxDischargeDepth := 12) only [push_cast,appendX,reduceIte,reduceCtorEq,Nat.reduceSub,Nat.reduceAdd,Nat.reduceMul,Nat.reduceLT,Nat.reduceLeDiff,Nat.reduceEqDiff,Nat.reduceBEq,Int.reduceToNat,Int.reduceLT,Int.reduceLE,Int.reduceEq,Int.reduceNeg,Try.results12,dcml,dcmr,dc2,dc16,xt3.2,xt3.ltT,xt3.leT,dci,dci2,dci0,dcil,dcel,dcw,dcall,dctk]); with_reducible rfl))) | ((with_reducible refine AW.cond_true ?_ ?_); · rfl) | ((with_reducible refine AW.cond_false ?_ ?_); · rfl) | simp (maxSteps := 3000000) (maxDischargeDepth := 12) only [push_cast,appendX,reduceIte,reduceCtorEq,Nat.reduceSub,Nat.reduceAdd,Nat.reduceMul,Nat.reduceLT,Nat.reduceLeDiff,Nat.reduceEqDiff,Nat.reduceBEq,Int.reduceToNat,Int.reduceLT,Int.reduceLE,Int.reduceEq,Int.reduceNeg,Try.results12,dcml,dcmr,dc2,dc16,xt3.2,xt3.ltT,xt3.leT,dci,dci2,dci0,dcil,dcel,dcw,dcall,dctk])
    ((apply DLeft.call (f := 24) (first := []) (cap := [])); (case hoi => ((simp only [List.getElem?_toArray, List.getElem?_cons_zero, List.getElem?_cons_succ]); with_reducible rfl)); (case hg => rfl); (case ho => rfl); (case hc => rfl); (case hf => exact fn24); (case has => rfl)); refine ACalls.mono (has_ok _ (r.take i) x (by rw [List.length_take]; omega)) ?_
    rintro y s ⟨rfl, rfl⟩
    by_cases hm : x ∈ r.take i
    · have dcm : decide (x ∈ r.take i) = true := decide_eq_true hm
      have e := rtv_none (by omega) (by omega) hi (by rw [hstep, if_pos hm])
      repeat (first | (with_reducible refine AW.seq ?_) | (with_reducible refine AW.block ?_) | (with_reducible refine AW.skip ?_) | (with_reducible refine AW.ret ?_) | (with_reducible refine AW.exit ?_) | (with_reducible refine AW.reg hT ?_) | (with_reducible refine AW.drawn (id := 7) hT [0,1,2,3,4,5,6,7] [[],[],[0,1],[],[],[3,4],[3,4,5],[0,1,2,3,4,5,6]] mix (by kernel_rfl) ?_) | (with_reducible refine AW.drawn (id := 10) hT [0,1,2,3,4,5,6,7,8,9,10,11] [[],[],[],[2],[1,2,3],[1,2,3,4],[],[],[6,7],[6,7,8],[0,1,2,3,4,5,6,7,8,9],[0,1,2,3,4,5,6,7,8,9,10]] mix (by kernel_rfl) ?_) | ((with_reducible show DLeft _ _ _ _ (_ :: _) _ _ _ _); (with_reducible apply DLeft.step hT); (case hoi => ((simp only [List.getElem?_toArray,List.getElem?_cons_zero,List.getElem?_cons_succ]); with_reducible rfl)); (case hg => rfl); (case hk => rfl); (case hr => ((try simp (maxSteps := 3000000) (maxDischargeDepth := 12) only [push_cast,appendX,reduceIte,reduceCtorEq,Nat.reduceSub,Nat.reduceAdd,Nat.reduceMul,Nat.reduceLT,Nat.reduceLeDiff,Nat.reduceEqDiff,Nat.reduceBEq,Int.reduceToNat,Int.reduceLT,Int.reduceLE,Int.reduceEq,Int.reduceNeg,Try.results12,dcml,dcmr,dc2,dc16,xt3.2,xt3.ltT,xt3.leT,dci,dci2,dci0,dcil,dcel,dcw,dcall,dctk,dcm]); with_reducible rfl))) | ((with_reducible refine AW.cond_true ?_ ?_); · rfl) | ((with_reducible refine AW.cond_false ?_ ?_); · rfl) | simp (maxSteps := 3000000) (maxDischargeDepth := 12) only [push_cast,appendX,reduceIte,reduceCtorEq,Nat.reduceSub,Nat.reduceAdd,Nat.reduceMul,Nat.reduceLT,Nat.reduceLeDiff,Nat.reduceEqDiff,Nat.reduceBEq,Int.reduceToNat,Int.reduceLT,Int.reduceLE,Int.reduceEq,Int.reduceNeg,Try.results12,dcml,dcmr,dc2,dc16,xt3.2,xt3.ltT,xt3.leT,dci,dci2,dci0,dcil,dcel,dcw,dcall,dctk,dcm])
      rw [e]
      exact ⟨rfl, xt3⟩
    have dcm : decide (x ∈ r.take i) = false := decide_eq_false hm
    rw [if_neg hm] at hstep
    by_cases hi0 : i = 0
    · have dcz : ((i : Int) == 0) = true := by simp [hi0]
      rw [if_pos hi0] at hstep
      repeat (first | (with_reducible refine AW.seq ?_) | (with_reducible refine AW.block ?_) | (with_reducible refine AW.skip ?_) | (with_reducible refine AW.ret ?_) | (with_reducible refine AW.exit ?_) | (with_reducible refine AW.reg hT ?_) | (with_reducible refine AW.drawn (id := 7) hT [0,1,2,3,4,5,6,7] [[],[],[0,1],[],[],[3,4],[3,4,5],[0,1,2,3,4,5,6]] mix (by kernel_rfl) ?_) | (with_reducible refine AW.drawn (id := 10) hT [0,1,2,3,4,5,6,7,8,9,10,11] [[],[],[],[2],[1,2,3],[1,2,3,4],[],[],[6,7],[6,7,8],[0,1,2,3,4,5,6,7,8,9],[0,1,2,3,4,5,6,7,8,9,10]] mix (by kernel_rfl) ?_) | ((with_reducible show DLeft _ _ _ _ (_ :: _) _ _ _ _); (with_reducible apply DLeft.step hT); (case hoi => ((simp only [List.getElem?_toArray,List.getElem?_cons_zero,List.getElem?_cons_succ]); with_reducible rfl)); (case hg => rfl); (case hk => rfl); (case hr => ((try simp (maxSteps := 3000000) (maxDischargeDepth := 12) only [push_cast,appendX,reduceIte,reduceCtorEq,Nat.reduceSub,Nat.reduceAdd,Nat.reduceMul,Nat.reduceLT,Nat.reduceLeDiff,Nat.reduceEqDiff,Nat.reduceBEq,Int.reduceToNat,Int.reduceLT,Int.reduceLE,Int.reduceEq,Int.reduceNeg,Try.results12,dcml,dcmr,dc2,dc16,xt3.2,xt3.ltT,xt3.leT,dci,dci2,dci0,dcil,dcel,dcw,dcall,dctk,dcm,dcz]); with_reducible rfl))) | ((with_reducible refine AW.cond_true ?_ ?_); · rfl) | ((with_reducible refine AW.cond_false ?_ ?_); · rfl) | simp (maxSteps := 3000000) (maxDischargeDepth := 12) only [push_cast,appendX,reduceIte,reduceCtorEq,Nat.reduceSub,Nat.reduceAdd,Nat.reduceMul,Nat.reduceLT,Nat.reduceLeDiff,Nat.reduceEqDiff,Nat.reduceBEq,Int.reduceToNat,Int.reduceLT,Int.reduceLE,Int.reduceEq,Int.reduceNeg,Try.results12,dcml,dcmr,dc2,dc16,xt3.2,xt3.ltT,xt3.leT,dci,dci2,dci0,dcil,dcel,dcw,dcall,dctk,dcm,dcz])
      exact ⟨r.length + 1 - (i + 1), by omega, i + 1, n, rfl, hi, hstep, xt3, by (simp only [push_cast, TellsL, tells_any, tells_refl])⟩
    have dcz : ((i : Int) == 0) = false := by simp [hi0]
    rw [if_neg hi0] at hstep
    obtain ⟨j, hj⟩ : ∃ j, j = i - 1 := ⟨_, rfl⟩
    obtain ⟨w, hw⟩ : ∃ w, r[j]? = some w := ⟨_, List.getElem?_eq_getElem (by omega)⟩
    have hgw : r.getD (i - 1) 0 = w := by rw [← hj]; simp [List.getD_eq_getElem?_getD, hw]
    rw [hgw] at hstep
    have dcw1 : IntKind.i64.wrap ((i : Int) - 1) = (i : Int) - 1 := wrap_i64 (by omega) (by omega)
    have dcj1 : ((i : Int) - 1 < (r.length : Int)) = True := by simp; omega
    have dcj0 : ((0 : Int) ≤ (i : Int) - 1) = True := by simp; omega
    have dcjt : ((i : Int) - 1).toNat = j := by omega
    have dcep : (r.map eZ)[j]? = some [.sc (.int .i64 w)] := by rw [List.getElem?_map, hw]; rfl
    repeat (first | (with_reducible refine AW.seq ?_) | (with_reducible refine AW.block ?_) | (with_reducible refine AW.skip ?_) | (with_reducible refine AW.ret ?_) | (with_reducible refine AW.exit ?_) | (with_reducible refine AW.reg hT ?_) | (with_reducible refine AW.drawn (id := 7) hT [0,1,2,3,4,5,6,7] [[],[],[0,1],[],[],[3,4],[3,4,5],[0,1,2,3,4,5,6]] mix (by kernel_rfl) ?_) | (with_reducible refine AW.drawn (id := 10) hT [0,1,2,3,4,5,6,7,8,9,10,11] [[],[],[],[2],[1,2,3],[1,2,3,4],[],[],[6,7],[6,7,8],[0,1,2,3,4,5,6,7,8,9],[0,1,2,3,4,5,6,7,8,9,10]] mix (by kernel_rfl) ?_) | ((with_reducible show DLeft _ _ _ _ (_ :: _) _ _ _ _); (with_reducible apply DLeft.step hT); (case hoi => ((simp only [List.getElem?_toArray,List.getElem?_cons_zero,List.getElem?_cons_succ]); with_reducible rfl)); (case hg => rfl); (case hk => rfl); (case hr => ((try simp (maxSteps := 3000000) (maxDischargeDepth := 12) only [push_cast,appendX,reduceIte,reduceCtorEq,Nat.reduceSub,Nat.reduceAdd,Nat.reduceMul,Nat.reduceLT,Nat.reduceLeDiff,Nat.reduceEqDiff,Nat.reduceBEq,Int.reduceToNat,Int.reduceLT,Int.reduceLE,Int.reduceEq,Int.reduceNeg,Try.results12,dcml,dcmr,dc2,dc16,xt3.2,xt3.ltT,xt3.leT,dci,dci2,dci0,dcil,dcel,dcw,dcall,dctk,dcm,dcz,dcw1,dcj1,dcj0,dcjt,dcep]); with_reducible rfl))) | ((with_reducible refine AW.cond_true ?_ ?_); · rfl) | ((with_reducible refine AW.cond_false ?_ ?_); · rfl) | simp (maxSteps := 3000000) (maxDischargeDepth := 12) only [push_cast,appendX,reduceIte,reduceCtorEq,Nat.reduceSub,Nat.reduceAdd,Nat.reduceMul,Nat.reduceLT,Nat.reduceLeDiff,Nat.reduceEqDiff,Nat.reduceBEq,Int.reduceToNat,Int.reduceLT,Int.reduceLE,Int.reduceEq,Int.reduceNeg,Try.results12,dcml,dcmr,dc2,dc16,xt3.2,xt3.ltT,xt3.leT,dci,dci2,dci0,dcil,dcel,dcw,dcall,dctk,dcm,dcz,dcw1,dcj1,dcj0,dcjt,dcep])
    ((apply DLeft.call (f := 19) (first := []) (cap := [])); (case hoi => ((simp only [List.getElem?_toArray, List.getElem?_cons_zero, List.getElem?_cons_succ]); with_reducible rfl)); (case hg => rfl); (case ho => rfl); (case hc => rfl); (case hf => exact fn19); (case has => rfl)); refine ACalls.mono (rfind_ok _ l w x hl) ?_
    rintro y s ⟨rfl, rfl⟩
    by_cases hf : fnd l w x < 0
    · have dcf : decide (fnd l w x < 0) = true := decide_eq_true hf
      have e := rtv_none (by omega) (by omega) hi (by rw [hstep, if_pos hf])
      repeat (first | (with_reducible refine AW.seq ?_) | (with_reducible refine AW.block ?_) | (with_reducible refine AW.skip ?_) | (with_reducible refine AW.ret ?_) | (with_reducible refine AW.exit ?_) | (with_reducible refine AW.reg hT ?_) | (with_reducible refine AW.drawn (id := 7) hT [0,1,2,3,4,5,6,7] [[],[],[0,1],[],[],[3,4],[3,4,5],[0,1,2,3,4,5,6]] mix (by kernel_rfl) ?_) | (with_reducible refine AW.drawn (id := 10) hT [0,1,2,3,4,5,6,7,8,9,10,11] [[],[],[],[2],[1,2,3],[1,2,3,4],[],[],[6,7],[6,7,8],[0,1,2,3,4,5,6,7,8,9],[0,1,2,3,4,5,6,7,8,9,10]] mix (by kernel_rfl) ?_) | ((with_reducible show DLeft _ _ _ _ (_ :: _) _ _ _ _); (with_reducible apply DLeft.step hT); (case hoi => ((simp only [List.getElem?_toArray,List.getElem?_cons_zero,List.getElem?_cons_succ]); with_reducible rfl)); (case hg => rfl); (case hk => rfl); (case hr => ((try simp (maxSteps := 3000000) (maxDischargeDepth := 12) only [push_cast,appendX,reduceIte,reduceCtorEq,Nat.reduceSub,Nat.reduceAdd,Nat.reduceMul,Nat.reduceLT,Nat.reduceLeDiff,Nat.reduceEqDiff,Nat.reduceBEq,Int.reduceToNat,Int.reduceLT,Int.reduceLE,Int.reduceEq,Int.reduceNeg,Try.results12,dcml,dcmr,dc2,dc16,xt3.2,xt3.ltT,xt3.leT,dci,dci2,dci0,dcil,dcel,dcw,dcall,dctk,dcm,dcz,dcw1,dcj1,dcj0,dcjt,dcep,dcf]); with_reducible rfl))) | ((with_reducible refine AW.cond_true ?_ ?_); · rfl) | ((with_reducible refine AW.cond_false ?_ ?_); · rfl) | simp (maxSteps := 3000000) (maxDischargeDepth := 12) only [push_cast,appendX,reduceIte,reduceCtorEq,Nat.reduceSub,Nat.reduceAdd,Nat.reduceMul,Nat.reduceLT,Nat.reduceLeDiff,Nat.reduceEqDiff,Nat.reduceBEq,Int.reduceToNat,Int.reduceLT,Int.reduceLE,Int.reduceEq,Int.reduceNeg,Try.results12,dcml,dcmr,dc2,dc16,xt3.2,xt3.ltT,xt3.leT,dci,dci2,dci0,dcil,dcel,dcw,dcall,dctk,dcm,dcz,dcw1,dcj1,dcj0,dcjt,dcep,dcf])
      rw [e]
      exact ⟨rfl, xt3⟩
    have dcf : decide (fnd l w x < 0) = false := decide_eq_false hf
    rw [if_neg hf] at hstep
    obtain ⟨z, hz, _⟩ := fnd_lt l w x (by omega)
    have hzl := (List.getElem?_eq_some_iff.1 hz).1
    rw [hz] at hstep
    have dck1 : (fnd l w x < (l.length : Int)) = True := by simp; omega
    have dck0 : (0 ≤ fnd l w x) = True := by simp; omega
    have dcek : (l.map eK)[(fnd l w x).toNat]? = some (eK z) := by rw [List.getElem?_map, hz]; rfl
    rw [eK_eq] at dcek
    have hbn := rtG_bound hs hstep
    have dcwn : IntKind.i64.wrap (n + z.f3) = n + z.f3 := wrap_i64 (by omega) (by omega)
    repeat (first | (with_reducible refine AW.seq ?_) | (with_reducible refine AW.block ?_) | (with_reducible refine AW.skip ?_) | (with_reducible refine AW.ret ?_) | (with_reducible refine AW.exit ?_) | (with_reducible refine AW.reg hT ?_) | (with_reducible refine AW.drawn (id := 7) hT [0,1,2,3,4,5,6,7] [[],[],[0,1],[],[],[3,4],[3,4,5],[0,1,2,3,4,5,6]] mix (by kernel_rfl) ?_) | (with_reducible refine AW.drawn (id := 10) hT [0,1,2,3,4,5,6,7,8,9,10,11] [[],[],[],[2],[1,2,3],[1,2,3,4],[],[],[6,7],[6,7,8],[0,1,2,3,4,5,6,7,8,9],[0,1,2,3,4,5,6,7,8,9,10]] mix (by kernel_rfl) ?_) | ((with_reducible show DLeft _ _ _ _ (_ :: _) _ _ _ _); (with_reducible apply DLeft.step hT); (case hoi => ((simp only [List.getElem?_toArray,List.getElem?_cons_zero,List.getElem?_cons_succ]); with_reducible rfl)); (case hg => rfl); (case hk => rfl); (case hr => ((try simp (maxSteps := 3000000) (maxDischargeDepth := 12) only [push_cast,appendX,reduceIte,reduceCtorEq,Nat.reduceSub,Nat.reduceAdd,Nat.reduceMul,Nat.reduceLT,Nat.reduceLeDiff,Nat.reduceEqDiff,Nat.reduceBEq,Int.reduceToNat,Int.reduceLT,Int.reduceLE,Int.reduceEq,Int.reduceNeg,Try.results12,dcml,dcmr,dc2,dc16,xt3.2,xt3.ltT,xt3.leT,dci,dci2,dci0,dcil,dcel,dcw,dcall,dctk,dcm,dcz,dcw1,dcj1,dcj0,dcjt,dcep,dcf,dck1,dck0,dcek,dcwn]); with_reducible rfl))) | ((with_reducible refine AW.cond_true ?_ ?_); · rfl) | ((with_reducible refine AW.cond_false ?_ ?_); · rfl) | simp (maxSteps := 3000000) (maxDischargeDepth := 12) only [push_cast,appendX,reduceIte,reduceCtorEq,Nat.reduceSub,Nat.reduceAdd,Nat.reduceMul,Nat.reduceLT,Nat.reduceLeDiff,Nat.reduceEqDiff,Nat.reduceBEq,Int.reduceToNat,Int.reduceLT,Int.reduceLE,Int.reduceEq,Int.reduceNeg,Try.results12,dcml,dcmr,dc2,dc16,xt3.2,xt3.ltT,xt3.leT,dci,dci2,dci0,dcil,dcel,dcw,dcall,dctk,dcm,dcz,dcw1,dcj1,dcj0,dcjt,dcep,dcf,dck1,dck0,dcek,dcwn])
    exact ⟨r.length + 1 - (i + 1), by omega, i + 1, n + z.f3, rfl, hi, hstep, xt3, by (simp only [push_cast, TellsL, tells_any, tells_refl])⟩
  · have dci : decide ((i : Int) < (r.length : Int)) = false := decide_eq_false (by omega)
    have he : i = r.length := by omega
    subst he
    have e := rtv_some (by omega) (by omega) hrt
    repeat (first | (with_reducible refine AW.seq ?_) | (with_reducible refine AW.block ?_) | (with_reducible refine AW.skip ?_) | (with_reducible refine AW.ret ?_) | (with_reducible refine AW.exit ?_) | (with_reducible refine AW.reg hT ?_) | (with_reducible refine AW.drawn (id := 7) hT [0,1,2,3,4,5,6,7] [[],[],[0,1],[],[],[3,4],[3,4,5],[0,1,2,3,4,5,6]] mix (by kernel_rfl) ?_) | (with_reducible refine AW.drawn (id := 10) hT [0,1,2,3,4,5,6,7,8,9,10,11] [[],[],[],[2],[1,2,3],[1,2,3,4],[],[],[6,7],[6,7,8],[0,1,2,3,4,5,6,7,8,9],[0,1,2,3,4,5,6,7,8,9,10]] mix (by kernel_rfl) ?_) | ((with_reducible show DLeft _ _ _ _ (_ :: _) _ _ _ _); (with_reducible apply DLeft.step hT); (case hoi => ((simp only [List.getElem?_toArray,List.getElem?_cons_zero,List.getElem?_cons_succ]); with_reducible rfl)); (case hg => rfl); (case hk => rfl); (case hr => ((try simp (maxSteps := 3000000) (maxDischargeDepth := 12) only [push_cast,appendX,reduceIte,reduceCtorEq,Nat.reduceSub,Nat.reduceAdd,Nat.reduceMul,Nat.reduceLT,Nat.reduceLeDiff,Nat.reduceEqDiff,Nat.reduceBEq,Int.reduceToNat,Int.reduceLT,Int.reduceLE,Int.reduceEq,Int.reduceNeg,Try.results12,dcml,dcmr,dc2,dc16,xt3.2,xt3.ltT,xt3.leT,dci]); with_reducible rfl))) | ((with_reducible refine AW.cond_true ?_ ?_); · rfl) | ((with_reducible refine AW.cond_false ?_ ?_); · rfl) | simp (maxSteps := 3000000) (maxDischargeDepth := 12) only [push_cast,appendX,reduceIte,reduceCtorEq,Nat.reduceSub,Nat.reduceAdd,Nat.reduceMul,Nat.reduceLT,Nat.reduceLeDiff,Nat.reduceEqDiff,Nat.reduceBEq,Int.reduceToNat,Int.reduceLT,Int.reduceLE,Int.reduceEq,Int.reduceNeg,Try.results12,dcml,dcmr,dc2,dc16,xt3.2,xt3.ltT,xt3.leT,dci])
    rw [e]
    exact ⟨rfl, xt3⟩
end Go.Proofs.Ytpigelcckiejiaa.Cm
