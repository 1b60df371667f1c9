/- PoolNobody. -/
import Derived.Test.YthdamnemoaaigaaPoolB
import Derived.Test.YthdamnemoaaigaaPool4
namespace Go.Proofs.Ythdamnemoaaigaa.Cm
open Go.RowKit
set_option linter.unusedVariables false
set_option linter.unusedSimpArgs false
set_option maxRecDepth 20000
set_option maxHeartbeats 8000000
theorem Ext.less {σ σ' : Heap} {t : Nat} (hx : Ext [t] σ σ') (h : σ'.get t = σ.get t) : Ext [] σ σ' := ⟨hx.1, fun p hp _ => by
  by_cases e : p = t
  · subst e; exact h
  · exact hx.2 p hp (by simpa using e)⟩
theorem outE_ok (σ : Heap) {p t : Nat} {nx hi : Int} {E : List (Int × DV)} (h : Pl σ p t nx hi E) (hl : E.length ≤ 100000) : ACalls Try.prog 16 [.ptr p 0 0 1] σ (fun y σ' => Hold σ' y 3 ((srt (E.map Prod.fst)).map eZ') ∧ (∀ x ∈ tOf y, σ.n ≤ x) ∧ Ext [] σ σ') := by
  refine (outH_ok σ h hl).mono ?_
  rintro y σ' ⟨h1, h2, h3, h4⟩
  exact ⟨h1, h2, h4.less (by rw [h3.pm, h.pm])⟩
def nbI (acts : List Ac) (m : Nat) (ts : List DV) (σ : Heap) : Prop := ∃ (i p t : Nat) (nx : Int) (E : List (Int × DV)) (L : List Od) (dO dW : DV) (H : List DV), m = acts.length + 1 - i ∧ i ≤ acts.length ∧ i ≤ 100 ∧ Pn σ p t nx E L dO dW H ∧ E.length ≤ i ∧ L.length ≤ 8 ∧ TellsL ts (.imm (acts.map eAc) :: .any :: .any :: .any :: .any :: .any :: .any :: .ptr p 0 0 1 :: dO :: dW :: .sc (.int .i64 i) :: .any :: .any :: .any :: .any :: .any :: .any :: .any :: .any :: .any :: .any :: .any :: .any :: .any :: .any :: .any :: .any :: .any :: .any :: .any :: .any :: .any :: .any :: .any :: .any :: .any :: .any :: .any :: .any :: .any :: .any :: .any :: .any :: .any :: .any :: .any :: .any :: .any :: .any :: .any :: .any :: .any :: .any :: .any :: .any :: .any :: .any :: .any :: .any :: .any :: .any :: .any :: .any :: .any :: .any :: .any :: .any :: .any :: .any :: .any :: .any :: .any :: .any :: .any :: .any :: .any :: .any :: .any :: .any :: .any :: .any :: .any :: .any :: .any :: .any :: .any :: .any :: .any :: .any :: .any :: .any :: .any :: .any :: .any :: .any :: .any :: .any :: .any :: .any :: .any :: .any :: .any :: .any :: .any :: .any :: .any :: .any :: .any :: .any :: .any :: .any :: .any :: .any :: .any :: .any :: .any :: .any :: .any :: .any :: .any :: .any :: .any :: .any :: .any :: .any :: .any :: .any :: .any :: .any :: .any :: .any :: .any :: .any :: [])
def nbF (p t : Nat) (nx : Int) (E : List (Int × DV)) (L : List Od) (dO dW : DV) (H : List DV) (m : Nat) (ts : List DV) (σ : Heap) : Prop := ∃ i : Nat, m = L.length + 1 - i ∧ i ≤ L.length ∧ Pn σ p t nx E L dO dW H ∧ TellsL ts (.any :: .any :: .any :: .any :: .any :: .any :: .any :: .any :: dO :: dW :: .any :: .any :: .any :: .any :: .any :: .any :: .any :: .any :: .any :: .any :: .any :: .any :: .any :: .any :: .any :: .any :: .any :: .any :: .any :: .any :: .any :: .any :: .any :: .any :: .any :: .any :: .any :: .any :: .any :: .any :: .any :: .any :: .any :: .any :: .any :: .any :: .any :: .any :: .any :: .any :: .any :: .any :: .any :: .any :: .any :: .any :: .any :: .any :: .any :: .any :: .any :: .any :: .any :: .any :: .any :: .any :: .any :: .any :: .any :: .any :: .any :: .any :: .any :: .any :: .any :: .any :: .any :: .any :: .any :: .any :: .any :: .any :: .any :: .any :: .any :: .any :: .any :: .any :: .any :: .any :: .any :: .any :: .any :: .any :: .any :: .any :: .any :: .any :: .any :: .any :: .any :: .any :: .any :: .any :: .any :: .any :: .any :: .any :: .any :: .any :: .sc (.int .i64 L.length) :: .sc (.int .i64 i) :: .any :: .any :: .any :: .any :: .any :: .any :: .any :: .any :: .any :: .any :: .any :: .any :: .any :: .any :: .any :: .any :: .any :: .any :: .any :: .any :: .any :: [])
theorem nobody_ok (acts : List Ac) (h : acts.length ≤ maxLen ∧ ∀ y ∈ acts, wAc y) : ACalls Try.prog 7 [.imm (acts.map eAc)] ⟨[]⟩ (fun x _ => x = .sc (.bool true)) := by
  obtain ⟨_, hw⟩ := h
  generalize (⟨[]⟩ : Heap) = σ
  have dcml : (acts.map eAc).length = acts.length := by simp
  have dcw1 : IntKind.i64.wrap 1 = 1 := by decide
  have dcw2 : IntKind.i64.wrap 2 = 2 := by decide
  refine ACalls.code hT Try.func7 rfl ?_
  simp only [Try.ntmps7, List.length_cons, List.length_nil, Nat.reduceSub, Nat.reduceAdd, List.replicate, List.cons_append, List.nil_append]
  repeat (first | (with_reducible first | refine AW.seq ?_ | refine AW.block ?_ | refine AW.skip ?_ | refine AW.ret ?_ | refine AW.exit ?_ | refine AW.reg hT ?_) | ((with_reducible refine AW.cond_true ?_ ?_); · (simp (maxSteps := 3000000) (maxDischargeDepth := 12) only [seval,push_cast,appendX,dcml,dcw1,dcw2]; done)) | ((with_reducible refine AW.cond_false ?_ ?_); · (simp (maxSteps := 3000000) (maxDischargeDepth := 12) only [seval,push_cast,appendX,dcml,dcw1,dcw2]; done)) | simp (maxSteps := 3000000) (maxDischargeDepth := 12) only [seval,push_cast,appendX,Try.results7,dcml,dcw1,dcw2])
  refine AOpsL.call (first := []) (cap := []) hT rfl rfl rfl fn8 rfl (ACalls.mono (alive_ok _) ?_)
  rintro y σ1 ⟨rfl, hx1⟩
  repeat (first | (with_reducible first | refine AW.seq ?_ | refine AW.block ?_ | refine AW.skip ?_ | refine AW.ret ?_ | refine AW.exit ?_ | refine AW.reg hT ?_) | ((with_reducible refine AW.cond_true ?_ ?_); · (simp (maxSteps := 3000000) (maxDischargeDepth := 12) only [seval,push_cast,appendX,dcml,dcw1,dcw2]; done)) | ((with_reducible refine AW.cond_false ?_ ?_); · (simp (maxSteps := 3000000) (maxDischargeDepth := 12) only [seval,push_cast,appendX,dcml,dcw1,dcw2]; done)) | simp (maxSteps := 3000000) (maxDischargeDepth := 12) only [seval,push_cast,appendX,Try.results7,dcml,dcw1,dcw2])
  have hBB : ∃ B, B = (σ1.push ⟨[[.sc (.int .i64 0), .sc (.int .i64 0), .sc (.map none)]], 51, true⟩).push ⟨[[.sc (.pointer none)], [.ptr σ1.n 0 0 1]], 24, true⟩ := ⟨_, rfl⟩
  obtain ⟨B, hB⟩ := hBB
  have hqB : B.get σ1.n = some ⟨[[.sc (.int .i64 0), .sc (.int .i64 0), .sc (.map none)]], 51, true⟩ := by rw [hB]; simp (maxSteps := 3000000) (maxDischargeDepth := 12) only [push_cast, appendX, Nat.reduceAdd, Nat.reduceEqDiff, Nat.reduceLT, Nat.reduceLeDiff, reduceIte, reduceCtorEq, dcml, dcw1, dcw2]
  have hrB : B.get (σ1.n + 1) = some ⟨[[.sc (.pointer none)], [.ptr σ1.n 0 0 1]], 24, true⟩ := by rw [hB]; simp (maxSteps := 3000000) (maxDischargeDepth := 12) only [push_cast, appendX, Nat.reduceAdd, Nat.reduceEqDiff, Nat.reduceLT, Nat.reduceLeDiff, reduceIte, reduceCtorEq, dcml, dcw1, dcw2]
  rw [← hB]
  refine AW.loop (fun m ts σ' => ∃ i : Int, (i = 0 ∨ i = 1 ∨ i = 2) ∧ m = (3 - i).toNat ∧ σ' = B ∧ TellsL ts (.imm (acts.map eAc) :: .any :: .any :: .any :: .any :: .any :: .any :: .any :: .any :: .any :: .any :: .any :: .any :: .any :: .any :: .any :: .sl (σ1.n + 1) 0 2 2 :: .sc (.int .i64 2) :: .sc (.int .i64 i) :: .any :: .any :: .any :: .any :: .any :: .any :: .any :: .any :: .any :: .any :: .any :: .any :: .any :: .any :: .any :: .any :: .any :: .any :: .any :: .any :: .any :: .any :: .any :: .any :: .any :: .any :: .any :: .any :: .any :: .any :: .any :: .any :: .any :: .any :: .any :: .any :: .any :: .any :: .any :: .any :: .any :: .any :: .any :: .any :: .any :: .any :: .any :: .any :: .any :: .any :: .any :: .any :: .any :: .any :: .any :: .any :: .any :: .any :: .any :: .any :: .any :: .any :: .any :: .any :: .any :: .any :: .any :: .any :: .any :: .any :: .any :: .any :: .any :: .any :: .any :: .any :: .any :: .any :: .any :: .any :: .any :: .any :: .any :: .any :: .any :: .any :: .any :: .any :: .any :: .any :: .any :: .any :: .any :: .any :: .any :: .any :: .any :: .any :: .any :: .any :: .any :: .any :: .any :: .any :: .any :: .any :: .any :: .any :: .any :: .any :: .any :: .any :: .any :: .any :: [])) (m := 3) ⟨0, .inl rfl, rfl, rfl, by (simp only [push_cast, TellsL, tells_any, tells_refl])⟩ ?_
  generalize σ1.n + 1 = r at hrB ⊢
  generalize σ1.n = q at hqB hrB ⊢
  clear hB hx1
  rintro m ts σ2 ⟨i, hi, rfl, rfl, hts⟩
  refine AW.told hts ?_
  clear hts
  have gtr := hrB
  rcases hi with rfl | rfl | rfl
  · have hnb : NB σ2 (.sc (.pointer none)) := .inl rfl
    repeat (first | (with_reducible first | refine AW.seq ?_ | refine AW.block ?_ | refine AW.skip ?_ | refine AW.ret ?_ | refine AW.exit ?_ | refine AW.reg hT ?_) | ((with_reducible refine AW.cond_true ?_ ?_); · (simp (maxSteps := 3000000) (maxDischargeDepth := 12) only [seval,push_cast,appendX,dcml,dcw1,dcw2,gtr,Heap.lt gtr]; done)) | ((with_reducible refine AW.cond_false ?_ ?_); · (simp (maxSteps := 3000000) (maxDischargeDepth := 12) only [seval,push_cast,appendX,dcml,dcw1,dcw2,gtr,Heap.lt gtr]; done)) | simp (maxSteps := 3000000) (maxDischargeDepth := 12) only [seval,push_cast,appendX,Try.results7,dcml,dcw1,dcw2,gtr,Heap.lt gtr])
    refine AOpsL.call (first := []) (cap := []) hT rfl rfl rfl fn13 rfl (ACalls.mono (takenb_ok _ hnb) ?_)
    rintro y s1 ⟨rfl, rfl⟩
    repeat (first | (with_reducible first | refine AW.seq ?_ | refine AW.block ?_ | refine AW.skip ?_ | refine AW.ret ?_ | refine AW.exit ?_ | refine AW.reg hT ?_) | ((with_reducible refine AW.cond_true ?_ ?_); · (simp (maxSteps := 3000000) (maxDischargeDepth := 12) only [seval,push_cast,appendX,dcml,dcw1,dcw2,gtr,Heap.lt gtr]; done)) | ((with_reducible refine AW.cond_false ?_ ?_); · (simp (maxSteps := 3000000) (maxDischargeDepth := 12) only [seval,push_cast,appendX,dcml,dcw1,dcw2,gtr,Heap.lt gtr]; done)) | simp (maxSteps := 3000000) (maxDischargeDepth := 12) only [seval,push_cast,appendX,Try.results7,dcml,dcw1,dcw2,gtr,Heap.lt gtr])
    refine AOpsL.call (first := []) (cap := []) hT rfl rfl rfl fn12 rfl (ACalls.mono (dropnb_ok _ 16 hnb) ?_)
    rintro y s2 ⟨rfl, rfl⟩
    repeat (first | (with_reducible first | refine AW.seq ?_ | refine AW.block ?_ | refine AW.skip ?_ | refine AW.ret ?_ | refine AW.exit ?_ | refine AW.reg hT ?_) | ((with_reducible refine AW.cond_true ?_ ?_); · (simp (maxSteps := 3000000) (maxDischargeDepth := 12) only [seval,push_cast,appendX,dcml,dcw1,dcw2,gtr,Heap.lt gtr]; done)) | ((with_reducible refine AW.cond_false ?_ ?_); · (simp (maxSteps := 3000000) (maxDischargeDepth := 12) only [seval,push_cast,appendX,dcml,dcw1,dcw2,gtr,Heap.lt gtr]; done)) | simp (maxSteps := 3000000) (maxDischargeDepth := 12) only [seval,push_cast,appendX,Try.results7,dcml,dcw1,dcw2,gtr,Heap.lt gtr])
    refine AOpsL.call (first := []) (cap := []) hT rfl rfl rfl fn16 rfl (ACalls.mono (outnb_ok _ hnb) ?_)
    rintro y s3 ⟨rfl, rfl⟩
    repeat (first | (with_reducible first | refine AW.seq ?_ | refine AW.block ?_ | refine AW.skip ?_ | refine AW.ret ?_ | refine AW.exit ?_ | refine AW.reg hT ?_) | ((with_reducible refine AW.cond_true ?_ ?_); · (simp (maxSteps := 3000000) (maxDischargeDepth := 12) only [seval,push_cast,appendX,dcml,dcw1,dcw2,gtr,Heap.lt gtr]; done)) | ((with_reducible refine AW.cond_false ?_ ?_); · (simp (maxSteps := 3000000) (maxDischargeDepth := 12) only [seval,push_cast,appendX,dcml,dcw1,dcw2,gtr,Heap.lt gtr]; done)) | simp (maxSteps := 3000000) (maxDischargeDepth := 12) only [seval,push_cast,appendX,Try.results7,dcml,dcw1,dcw2,gtr,Heap.lt gtr])
    refine AOpsL.call (first := []) (cap := []) hT rfl rfl rfl fn18 rfl (ACalls.mono (leftnb_ok _ hnb) ?_)
    rintro y s4 ⟨rfl, rfl⟩
    repeat (first | (with_reducible first | refine AW.seq ?_ | refine AW.block ?_ | refine AW.skip ?_ | refine AW.ret ?_ | refine AW.exit ?_ | refine AW.reg hT ?_) | ((with_reducible refine AW.cond_true ?_ ?_); · (simp (maxSteps := 3000000) (maxDischargeDepth := 12) only [seval,push_cast,appendX,dcml,dcw1,dcw2,gtr,Heap.lt gtr]; done)) | ((with_reducible refine AW.cond_false ?_ ?_); · (simp (maxSteps := 3000000) (maxDischargeDepth := 12) only [seval,push_cast,appendX,dcml,dcw1,dcw2,gtr,Heap.lt gtr]; done)) | simp (maxSteps := 3000000) (maxDischargeDepth := 12) only [seval,push_cast,appendX,Try.results7,dcml,dcw1,dcw2,gtr,Heap.lt gtr])
    refine AOpsL.call (first := []) (cap := []) hT rfl rfl rfl fn20 rfl (ACalls.mono (copynb_ok _ hnb) ?_)
    rintro y s5 ⟨rfl, rfl⟩
    repeat (first | (with_reducible first | refine AW.seq ?_ | refine AW.block ?_ | refine AW.skip ?_ | refine AW.ret ?_ | refine AW.exit ?_ | refine AW.reg hT ?_) | ((with_reducible refine AW.cond_true ?_ ?_); · (simp (maxSteps := 3000000) (maxDischargeDepth := 12) only [seval,push_cast,appendX,dcml,dcw1,dcw2,gtr,Heap.lt gtr]; done)) | ((with_reducible refine AW.cond_false ?_ ?_); · (simp (maxSteps := 3000000) (maxDischargeDepth := 12) only [seval,push_cast,appendX,dcml,dcw1,dcw2,gtr,Heap.lt gtr]; done)) | simp (maxSteps := 3000000) (maxDischargeDepth := 12) only [seval,push_cast,appendX,Try.results7,dcml,dcw1,dcw2,gtr,Heap.lt gtr])
    exact ⟨2, by decide, 1, .inr (.inl rfl), rfl, by (simp only [push_cast, TellsL, tells_any, tells_refl])⟩
  · have hnb : NB σ2 (.ptr q 0 0 1) := .inr ⟨q, rfl, hqB⟩
    repeat (first | (with_reducible first | refine AW.seq ?_ | refine AW.block ?_ | refine AW.skip ?_ | refine AW.ret ?_ | refine AW.exit ?_ | refine AW.reg hT ?_) | ((with_reducible refine AW.cond_true ?_ ?_); · (simp (maxSteps := 3000000) (maxDischargeDepth := 12) only [seval,push_cast,appendX,dcml,dcw1,dcw2,gtr,Heap.lt gtr]; done)) | ((with_reducible refine AW.cond_false ?_ ?_); · (simp (maxSteps := 3000000) (maxDischargeDepth := 12) only [seval,push_cast,appendX,dcml,dcw1,dcw2,gtr,Heap.lt gtr]; done)) | simp (maxSteps := 3000000) (maxDischargeDepth := 12) only [seval,push_cast,appendX,Try.results7,dcml,dcw1,dcw2,gtr,Heap.lt gtr])
    refine AOpsL.call (first := []) (cap := []) hT rfl rfl rfl fn13 rfl (ACalls.mono (takenb_ok _ hnb) ?_)
    rintro y s1 ⟨rfl, rfl⟩
    repeat (first | (with_reducible first | refine AW.seq ?_ | refine AW.block ?_ | refine AW.skip ?_ | refine AW.ret ?_ | refine AW.exit ?_ | refine AW.reg hT ?_) | ((with_reducible refine AW.cond_true ?_ ?_); · (simp (maxSteps := 3000000) (maxDischargeDepth := 12) only [seval,push_cast,appendX,dcml,dcw1,dcw2,gtr,Heap.lt gtr]; done)) | ((with_reducible refine AW.cond_false ?_ ?_); · (simp (maxSteps := 3000000) (maxDischargeDepth := 12) only [seval,push_cast,appendX,dcml,dcw1,dcw2,gtr,Heap.lt gtr]; done)) | simp (maxSteps := 3000000) (maxDischargeDepth := 12) only [seval,push_cast,appendX,Try.results7,dcml,dcw1,dcw2,gtr,Heap.lt gtr])
    refine AOpsL.call (first := []) (cap := []) hT rfl rfl rfl fn12 rfl (ACalls.mono (dropnb_ok _ 16 hnb) ?_)
    rintro y s2 ⟨rfl, rfl⟩
    repeat (first | (with_reducible first | refine AW.seq ?_ | refine AW.block ?_ | refine AW.skip ?_ | refine AW.ret ?_ | refine AW.exit ?_ | refine AW.reg hT ?_) | ((with_reducible refine AW.cond_true ?_ ?_); · (simp (maxSteps := 3000000) (maxDischargeDepth := 12) only [seval,push_cast,appendX,dcml,dcw1,dcw2,gtr,Heap.lt gtr]; done)) | ((with_reducible refine AW.cond_false ?_ ?_); · (simp (maxSteps := 3000000) (maxDischargeDepth := 12) only [seval,push_cast,appendX,dcml,dcw1,dcw2,gtr,Heap.lt gtr]; done)) | simp (maxSteps := 3000000) (maxDischargeDepth := 12) only [seval,push_cast,appendX,Try.results7,dcml,dcw1,dcw2,gtr,Heap.lt gtr])
    refine AOpsL.call (first := []) (cap := []) hT rfl rfl rfl fn16 rfl (ACalls.mono (outnb_ok _ hnb) ?_)
    rintro y s3 ⟨rfl, rfl⟩
    repeat (first | (with_reducible first | refine AW.seq ?_ | refine AW.block ?_ | refine AW.skip ?_ | refine AW.ret ?_ | refine AW.exit ?_ | refine AW.reg hT ?_) | ((with_reducible refine AW.cond_true ?_ ?_); · (simp (maxSteps := 3000000) (maxDischargeDepth := 12) only [seval,push_cast,appendX,dcml,dcw1,dcw2,gtr,Heap.lt gtr]; done)) | ((with_reducible refine AW.cond_false ?_ ?_); · (simp (maxSteps := 3000000) (maxDischargeDepth := 12) only [seval,push_cast,appendX,dcml,dcw1,dcw2,gtr,Heap.lt gtr]; done)) | simp (maxSteps := 3000000) (maxDischargeDepth := 12) only [seval,push_cast,appendX,Try.results7,dcml,dcw1,dcw2,gtr,Heap.lt gtr])
    refine AOpsL.call (first := []) (cap := []) hT rfl rfl rfl fn18 rfl (ACalls.mono (leftnb_ok _ hnb) ?_)
    rintro y s4 ⟨rfl, rfl⟩
    repeat (first | (with_reducible first | refine AW.seq ?_ | refine AW.block ?_ | refine AW.skip ?_ | refine AW.ret ?_ | refine AW.exit ?_ | refine AW.reg hT ?_) | ((with_reducible refine AW.cond_true ?_ ?_); · (simp (maxSteps := 3000000) (maxDischargeDepth := 12) only [seval,push_cast,appendX,dcml,dcw1,dcw2,gtr,Heap.lt gtr]; done)) | ((with_reducible refine AW.cond_false ?_ ?_); · (simp (maxSteps := 3000000) (maxDischargeDepth := 12) only [seval,push_cast,appendX,dcml,dcw1,dcw2,gtr,Heap.lt gtr]; done)) | simp (maxSteps := 3000000) (maxDischargeDepth := 12) only [seval,push_cast,appendX,Try.results7,dcml,dcw1,dcw2,gtr,Heap.lt gtr])
    refine AOpsL.call (first := []) (cap := []) hT rfl rfl rfl fn20 rfl (ACalls.mono (copynb_ok _ hnb) ?_)
    rintro y s5 ⟨rfl, rfl⟩
    repeat (first | (with_reducible first | refine AW.seq ?_ | refine AW.block ?_ | refine AW.skip ?_ | refine AW.ret ?_ | refine AW.exit ?_ | refine AW.reg hT ?_) | ((with_reducible refine AW.cond_true ?_ ?_); · (simp (maxSteps := 3000000) (maxDischargeDepth := 12) only [seval,push_cast,appendX,dcml,dcw1,dcw2,gtr,Heap.lt gtr]; done)) | ((with_reducible refine AW.cond_false ?_ ?_); · (simp (maxSteps := 3000000) (maxDischargeDepth := 12) only [seval,push_cast,appendX,dcml,dcw1,dcw2,gtr,Heap.lt gtr]; done)) | simp (maxSteps := 3000000) (maxDischargeDepth := 12) only [seval,push_cast,appendX,Try.results7,dcml,dcw1,dcw2,gtr,Heap.lt gtr])
    exact ⟨1, by decide, 2, .inr (.inr rfl), rfl, by (simp only [push_cast, TellsL, tells_any, tells_refl])⟩
  clear gtr hrB hqB
  repeat (first | (with_reducible first | refine AW.seq ?_ | refine AW.block ?_ | refine AW.skip ?_ | refine AW.ret ?_ | refine AW.exit ?_ | refine AW.reg hT ?_) | ((with_reducible refine AW.cond_true ?_ ?_); · (simp (maxSteps := 3000000) (maxDischargeDepth := 12) only [seval,push_cast,appendX,dcml,dcw1,dcw2]; done)) | ((with_reducible refine AW.cond_false ?_ ?_); · (simp (maxSteps := 3000000) (maxDischargeDepth := 12) only [seval,push_cast,appendX,dcml,dcw1,dcw2]; done)) | simp (maxSteps := 3000000) (maxDischargeDepth := 12) only [seval,push_cast,appendX,Try.results7,dcml,dcw1,dcw2])
  refine AOpsL.call (first := []) (cap := []) hT rfl rfl rfl fn9 rfl (ACalls.mono (pnew_ok _ 16 99) ?_)
  rintro y σ3 (⟨hr, rfl, rfl⟩ | ⟨hr, p, t, rfl, hp, hpn, htn, hx2⟩)
  · exact absurd (by unfold right; omega) hr
  repeat ((fail_if_success (with_reducible refine AW.at1 (id := 15) ?_)); (fail_if_success (with_reducible refine AW.at2 (id := 15) ?_)); first | (with_reducible first | refine AW.seq ?_ | refine AW.block ?_ | refine AW.skip ?_ | refine AW.ret ?_ | refine AW.exit ?_ | refine AW.reg hT ?_) | ((with_reducible refine AW.cond_true ?_ ?_); · (simp (maxSteps := 3000000) (maxDischargeDepth := 12) only [seval,push_cast,appendX,dcml,dcw1,dcw2]; done)) | ((with_reducible refine AW.cond_false ?_ ?_); · (simp (maxSteps := 3000000) (maxDischargeDepth := 12) only [seval,push_cast,appendX,dcml,dcw1,dcw2]; done)) | simp (maxSteps := 3000000) (maxDischargeDepth := 12) only [seval,push_cast,appendX,Try.results7,dcml,dcw1,dcw2])
  refine AW.seqK (fun ts σ => ∃ (p t : Nat) (nx : Int) (E : List (Int × DV)) (L : List Od) (dO dW : DV) (H : List DV), Pn σ p t nx E L dO dW H ∧ L.length ≤ 8 ∧ TellsL ts (.any :: .any :: .any :: .any :: .any :: .any :: .any :: .any :: dO :: dW :: .any :: .any :: .any :: .any :: .any :: .any :: .any :: .any :: .any :: .any :: .any :: .any :: .any :: .any :: .any :: .any :: .any :: .any :: .any :: .any :: .any :: .any :: .any :: .any :: .any :: .any :: .any :: .any :: .any :: .any :: .any :: .any :: .any :: .any :: .any :: .any :: .any :: .any :: .any :: .any :: .any :: .any :: .any :: .any :: .any :: .any :: .any :: .any :: .any :: .any :: .any :: .any :: .any :: .any :: .any :: .any :: .any :: .any :: .any :: .any :: .any :: .any :: .any :: .any :: .any :: .any :: .any :: .any :: .any :: .any :: .any :: .any :: .any :: .any :: .any :: .any :: .any :: .any :: .any :: .any :: .any :: .any :: .any :: .any :: .any :: .any :: .any :: .any :: .any :: .any :: .any :: .any :: .any :: .any :: .any :: .any :: .any :: .any :: .any :: .any :: .any :: .any :: .any :: .any :: .any :: .any :: .any :: .any :: .any :: .any :: .any :: .any :: .any :: .any :: .any :: .any :: .any :: .any :: .any :: .any :: .any :: .any :: .any :: [])) ?_ ?_
  · skip
    repeat (first | (with_reducible first | refine AW.seq ?_ | refine AW.block ?_ | refine AW.skip ?_ | refine AW.ret ?_ | refine AW.exit ?_ | refine AW.reg hT ?_) | ((with_reducible refine AW.cond_true ?_ ?_); · (simp (maxSteps := 3000000) (maxDischargeDepth := 12) only [seval,push_cast,appendX,dcml,dcw1,dcw2]; done)) | ((with_reducible refine AW.cond_false ?_ ?_); · (simp (maxSteps := 3000000) (maxDischargeDepth := 12) only [seval,push_cast,appendX,dcml,dcw1,dcw2]; done)) | simp (maxSteps := 3000000) (maxDischargeDepth := 12) only [seval,push_cast,appendX,Try.results7,dcml,dcw1,dcw2])
    refine AW.loop (nbI acts) (m := acts.length + 1) ⟨0, p, t, 16, [], [], .sc (.slice none 0 0), .sc (.slice none 0 0), [], rfl, Nat.zero_le _, Nat.zero_le _, ⟨hp, Gd.nil hr, by simp, by simp, Hold.nil _ _, Hold.nil _ _, rfl, by simp⟩, Nat.zero_le _, Nat.zero_le _, by (simp only [push_cast, TellsL, tells_any, tells_refl])⟩ ?_
    clear hp hpn htn hx2
    clear p t
    rintro m ts σ4 ⟨i, p, t, nx, E, L, dO, dW, H, rfl, hil, hi100, hP, hEi, hL8, hts⟩
    refine AW.told hts ?_
    clear hts
    by_cases hgo : i < acts.length ∧ i < 100
    · obtain ⟨hi_, hj⟩ := hgo
      have dci : decide ((i : Int) < (acts.length : Int)) = true := decide_eq_true (by omega)
      have dcj : decide ((i : Int) < 100) = true := decide_eq_true (by omega)
      have dci2 : ((i : Int) < (acts.length : Int)) = True := by simp; omega
      have dci0 : ((0 : Int) ≤ (i : Int)) = True := by simp
      obtain ⟨x, hx⟩ : ∃ x, acts[i]? = some x := ⟨_, List.getElem?_eq_getElem hi_⟩
      have hxw : wAc x := hw x (List.mem_of_getElem? hx)
      have dcel : (acts.map eAc)[i]? = some (eAc x) := by rw [List.getElem?_map, hx]; rfl
      rw [eAc_eq] at dcel
      have dcw : IntKind.i64.wrap ((i : Int) + 1) = (i : Int) + 1 := wrap_i64 (by omega) (by omega)
      repeat ((fail_if_success (with_reducible refine AW.at1 (id := 18) ?_)); (fail_if_success (with_reducible refine AW.at2 (id := 18) ?_)); first | (with_reducible first | refine AW.seq ?_ | refine AW.block ?_ | refine AW.skip ?_ | refine AW.ret ?_ | refine AW.exit ?_ | refine AW.reg hT ?_) | ((with_reducible refine AW.cond_true ?_ ?_); · (simp (maxSteps := 3000000) (maxDischargeDepth := 12) only [seval,push_cast,appendX,dcml,dcw1,dcw2,dci,dcj,dci2,dci0,dcel,dcw]; done)) | ((with_reducible refine AW.cond_false ?_ ?_); · (simp (maxSteps := 3000000) (maxDischargeDepth := 12) only [seval,push_cast,appendX,dcml,dcw1,dcw2,dci,dcj,dci2,dci0,dcel,dcw]; done)) | simp (maxSteps := 3000000) (maxDischargeDepth := 12) only [seval,push_cast,appendX,Try.results7,dcml,dcw1,dcw2,dci,dcj,dci2,dci0,dcel,dcw])
      refine AW.seqK (fun ts σ => ∃ (p t : Nat) (nx : Int) (E : List (Int × DV)) (L : List Od) (dO dW : DV) (H : List DV), Pn σ p t nx E L dO dW H ∧ E.length ≤ i ∧ L.length ≤ 8 ∧ TellsL ts (.imm (acts.map eAc) :: .any :: .any :: .any :: .any :: .any :: .any :: .ptr p 0 0 1 :: dO :: dW :: .sc (.int .i64 i) :: .any :: .any :: .any :: .any :: .any :: .any :: .any :: .any :: .any :: .any :: .any :: .any :: .any :: .any :: .any :: .any :: .any :: .any :: .any :: .any :: .any :: .any :: .any :: .any :: .any :: .any :: .any :: .any :: .any :: .any :: .any :: .any :: .any :: .any :: .any :: .any :: .any :: .any :: .any :: .any :: .any :: .any :: .any :: .any :: .any :: .any :: .any :: .any :: .any :: .any :: .any :: .any :: .any :: .any :: .any :: .any :: .any :: .any :: .any :: .any :: .any :: .any :: .any :: .any :: .any :: .any :: .any :: .any :: .any :: .any :: .any :: .any :: .any :: .any :: .any :: .any :: .any :: .any :: .any :: .any :: .any :: .any :: .any :: .any :: .any :: .any :: .any :: .any :: .any :: .any :: .any :: .any :: .any :: .any :: .any :: .any :: .any :: .any :: .any :: .any :: .any :: .any :: .any :: .any :: .any :: .any :: .any :: .any :: .any :: .any :: .any :: .any :: .any :: .any :: .any :: .any :: .any :: .any :: .any :: .any :: .any :: .any :: [])) ?_ ?_
      · cases hb : x.f1 with
        | false =>
          have dcb := hb
          repeat (first | (with_reducible first | refine AW.seq ?_ | refine AW.block ?_ | refine AW.skip ?_ | refine AW.ret ?_ | refine AW.exit ?_ | refine AW.reg hT ?_) | ((with_reducible refine AW.cond_true ?_ ?_); · (simp (maxSteps := 3000000) (maxDischargeDepth := 12) only [seval,push_cast,appendX,dcml,dcw1,dcw2,dci,dcj,dci2,dci0,dcel,dcw,dcb]; done)) | ((with_reducible refine AW.cond_false ?_ ?_); · (simp (maxSteps := 3000000) (maxDischargeDepth := 12) only [seval,push_cast,appendX,dcml,dcw1,dcw2,dci,dcj,dci2,dci0,dcel,dcw,dcb]; done)) | simp (maxSteps := 3000000) (maxDischargeDepth := 12) only [seval,push_cast,appendX,Try.results7,dcml,dcw1,dcw2,dci,dcj,dci2,dci0,dcel,dcw,dcb])
          exact ⟨p, t, nx, E, L, dO, dW, H, hP, hEi, hL8, by (simp only [push_cast, TellsL, tells_any, tells_refl])⟩
        | true =>
          have dcb := hb
          have dnlO : lenD T 52 dO = some (L.length : Int) := by
            have := hP.hO.len (T := T) (ty := 52) rfl
            rw [List.length_map] at this
            exact this
          by_cases hL : L.length < 8
          · have dcL : decide ((L.length : Int) < 8) = true := decide_eq_true (by omega)
            have xp : Ext [] σ4 (σ4.push ⟨[[.ptr p 0 0 1]], 24, true⟩) := (Ext.refl _ _).push _
            have hOp := hP.hO.frame xp (by simp)
            obtain ⟨d5, σ5, dnapp5, hh5, hx5, _⟩ := Hold.append (T := T) (ty := 52) (x := .sl σ4.n 0 1 1) (xs := [[.ptr p 0 0 1]]) (σ := σ4.push ⟨[[.ptr p 0 0 1]], 24, true⟩) hOp rfl rfl (by decide) (by simp [sliceD, getO]) (by simp) (by simp) (by rw [List.length_map]; simp; omega)
            have frp : ∀ {a : Nat} {o : AObj}, σ4.get a = some o → o.e ≠ 24 → σ5.get a = some o := fun ha hne => hx5.get (xp.get ha (by simp)) (hOp.ne (xp.get ha (by simp)) hne)
            have frl : ∀ {p t : Nat} {nx : Int} {E : List (Int × DV)}, Pl σ4 p t nx 99 E → Pl σ5 p t nx 99 E := fun h => ⟨frp h.po (show (51 : TypeId) ≠ 24 by decide), frp h.pm (show (49 : TypeId) ≠ 24 by decide)⟩
            have frh : ∀ {d : DV} {e : TypeId} {els : List (List DV)}, Hold σ4 d e els → e ≠ 24 → Hold σ5 d e els := fun hd hne => (hd.frame xp (by simp)).frame hx5 (hold_apart hOp (hd.frame xp (by simp)) hne)
            have hn5 : σ4.n ≤ σ5.n := Nat.le_trans xp.1 hx5.1
            have pl5 : Pl σ5 p t nx 99 E := frl hP.pl
            have old5 : ∀ o ∈ L, Pl σ5 o.p o.t o.nx 99 o.E ∧ Gd 16 99 o.nx o.E ∧ o.E.length ≤ 200 := fun o ho => ⟨frl (hP.old o ho).1, (hP.old o ho).2⟩
            have hW5 := frh hP.hW (by decide)
            have hH5 : ∀ (k : Nat) (o : Od) (h : DV), L[k]? = some o → H[k]? = some h → Hold σ5 h 3 ((wasOf o).map eZ') := fun k o h h1 h2 => frh (hP.hH k o h h1 h2) (by decide)
            have g2 := hP.gd.lo_
            have g3 := hP.gd.hi_
            repeat (first | (with_reducible first | refine AW.seq ?_ | refine AW.block ?_ | refine AW.skip ?_ | refine AW.ret ?_ | refine AW.exit ?_ | refine AW.reg hT ?_) | ((with_reducible refine AW.cond_true ?_ ?_); · (simp (maxSteps := 3000000) (maxDischargeDepth := 12) only [seval,push_cast,appendX,dcml,dcw1,dcw2,dci,dcj,dci2,dci0,dcel,dcw,dcb,↓dnlO,dcL,↓dnapp5]; done)) | ((with_reducible refine AW.cond_false ?_ ?_); · (simp (maxSteps := 3000000) (maxDischargeDepth := 12) only [seval,push_cast,appendX,dcml,dcw1,dcw2,dci,dcj,dci2,dci0,dcel,dcw,dcb,↓dnlO,dcL,↓dnapp5]; done)) | simp (maxSteps := 3000000) (maxDischargeDepth := 12) only [seval,push_cast,appendX,Try.results7,dcml,dcw1,dcw2,dci,dcj,dci2,dci0,dcel,dcw,dcb,↓dnlO,dcL,↓dnapp5])
            refine AOpsL.call (first := []) (cap := []) hT rfl rfl rfl fn16 rfl (ACalls.mono (outE_ok _ pl5 (by omega)) ?_)
            rintro dh σ6 ⟨hdh, hdn, hx6⟩
            have pl6 := pl5.frame hx6
            repeat (first | (with_reducible first | refine AW.seq ?_ | refine AW.block ?_ | refine AW.skip ?_ | refine AW.ret ?_ | refine AW.exit ?_ | refine AW.reg hT ?_) | ((with_reducible refine AW.cond_true ?_ ?_); · (simp (maxSteps := 3000000) (maxDischargeDepth := 12) only [seval,push_cast,appendX,dcml,dcw1,dcw2,dci,dcj,dci2,dci0,dcel,dcw,dcb,↓dnlO,dcL,↓dnapp5]; done)) | ((with_reducible refine AW.cond_false ?_ ?_); · (simp (maxSteps := 3000000) (maxDischargeDepth := 12) only [seval,push_cast,appendX,dcml,dcw1,dcw2,dci,dcj,dci2,dci0,dcel,dcw,dcb,↓dnlO,dcL,↓dnapp5]; done)) | simp (maxSteps := 3000000) (maxDischargeDepth := 12) only [seval,push_cast,appendX,Try.results7,dcml,dcw1,dcw2,dci,dcj,dci2,dci0,dcel,dcw,dcb,↓dnlO,dcL,↓dnapp5])
            refine AOpsL.call (first := []) (cap := []) hT rfl rfl rfl fn18 rfl (ACalls.mono (left_ok _ pl6 (by omega) (by omega) (by omega) (by omega)) ?_)
            rintro y s6 ⟨rfl, rfl⟩
            have xq : Ext [] s6 (s6.push ⟨[[.sc (.int .i64 (99 - nx + 1))]], 3, true⟩) := (Ext.refl _ _).push _
            have hdh' := hdh.frame xq (by simp)
            obtain ⟨dh7, σ7, dnapp7, hh7, hx7, _⟩ := Hold.append (T := T) (ty := 27) (x := .sl s6.n 0 1 1) (xs := [[.sc (.int .i64 (99 - nx + 1))]]) (σ := s6.push ⟨[[.sc (.int .i64 (99 - nx + 1))]], 3, true⟩) hdh' rfl rfl (by decide) (by simp [sliceD, getO]) (by simp) (by simp) (by rw [List.length_map, (srt_perm _).length_eq, List.length_map]; simp; omega)
            have hx57 : Ext [] σ5 σ7 := (hx6.trans xq).then hx7 (fun z hz hl => absurd (hdn z hz) (by omega))
            have hW7 := hW5.frame hx57 (by simp)
            have xr : Ext [] σ7 (σ7.push ⟨[[dh7]], 27, true⟩) := (Ext.refl _ _).push _
            have hW7' := hW7.frame xr (by simp)
            obtain ⟨dW8, σ8, dnapp8, hh8, hx8, _⟩ := Hold.append (T := T) (ty := 54) (x := .sl σ7.n 0 1 1) (xs := [[dh7]]) (σ := σ7.push ⟨[[dh7]], 27, true⟩) hW7' rfl rfl (by decide) (by simp [sliceD, getO]) (by simp) (by simp) (by rw [List.length_map, hP.hl]; simp; omega)
            have dncl := hh7.cells
            have dnlf := hh7.leaf
            have hx58 : Ext (tOf dW) σ5 σ8 := ((hx57.trans xr).mono (by simp)).trans hx8
            have frq : ∀ {a : Nat} {o : AObj}, σ5.get a = some o → o.e ≠ 27 → σ8.get a = some o := fun ha hne => hx58.get ha (hW5.ne ha hne)
            have frm : ∀ {p t : Nat} {nx : Int} {E : List (Int × DV)}, Pl σ5 p t nx 99 E → Pl σ8 p t nx 99 E := fun h => ⟨frq h.po (show (51 : TypeId) ≠ 27 by decide), frq h.pm (show (49 : TypeId) ≠ 27 by decide)⟩
            have frk : ∀ {d : DV} {e : TypeId} {els : List (List DV)}, Hold σ5 d e els → e ≠ 27 → Hold σ8 d e els := fun hd hne => hd.frame hx58 (hold_apart hW5 hd hne)
            have pl8 : Pl σ8 p t nx 99 E := frm pl5
            have old8 : ∀ o ∈ L, Pl σ8 o.p o.t o.nx 99 o.E ∧ Gd 16 99 o.nx o.E ∧ o.E.length ≤ 200 := fun o ho => ⟨frm (old5 o ho).1, (old5 o ho).2⟩
            have hO8 := frk hh5 (by decide)
            have hH8 : ∀ (k : Nat) (o : Od) (h : DV), L[k]? = some o → H[k]? = some h → Hold σ8 h 3 ((wasOf o).map eZ') := fun k o h h1 h2 => frk (hH5 k o h h1 h2) (by decide)
            have hdh8 : Hold σ8 dh7 3 ((srt (E.map Prod.fst)).map eZ' ++ [[.sc (.int .i64 (99 - nx + 1))]]) := (hh7.frame xr (by simp)).frame hx8 (hold_apart hW7' (hh7.frame xr (by simp)) (by decide))
            repeat (first | (with_reducible first | refine AW.seq ?_ | refine AW.block ?_ | refine AW.skip ?_ | refine AW.ret ?_ | refine AW.exit ?_ | refine AW.reg hT ?_) | ((with_reducible refine AW.cond_true ?_ ?_); · (simp (maxSteps := 3000000) (maxDischargeDepth := 12) only [seval,push_cast,appendX,dcml,dcw1,dcw2,dci,dcj,dci2,dci0,dcel,dcw,dcb,↓dnlO,dcL,↓dnapp5,↓dnapp7,↓dnapp8,↓dncl,↓dnlf]; done)) | ((with_reducible refine AW.cond_false ?_ ?_); · (simp (maxSteps := 3000000) (maxDischargeDepth := 12) only [seval,push_cast,appendX,dcml,dcw1,dcw2,dci,dcj,dci2,dci0,dcel,dcw,dcb,↓dnlO,dcL,↓dnapp5,↓dnapp7,↓dnapp8,↓dncl,↓dnlf]; done)) | simp (maxSteps := 3000000) (maxDischargeDepth := 12) only [seval,push_cast,appendX,Try.results7,dcml,dcw1,dcw2,dci,dcj,dci2,dci0,dcel,dcw,dcb,↓dnlO,dcL,↓dnapp5,↓dnapp7,↓dnapp8,↓dncl,↓dnlf])
            refine AOpsL.call (first := []) (cap := []) hT rfl rfl rfl fn20 rfl (ACalls.mono (copy_ok _ pl8) ?_)
            rintro y σ9 ⟨p2, t2, rfl, hp2, ht2, pl9, hx9⟩
            repeat (first | (with_reducible first | refine AW.seq ?_ | refine AW.block ?_ | refine AW.skip ?_ | refine AW.ret ?_ | refine AW.exit ?_ | refine AW.reg hT ?_) | ((with_reducible refine AW.cond_true ?_ ?_); · (simp (maxSteps := 3000000) (maxDischargeDepth := 12) only [seval,push_cast,appendX,dcml,dcw1,dcw2,dci,dcj,dci2,dci0,dcel,dcw,dcb,↓dnlO,dcL,↓dnapp5,↓dnapp7,↓dnapp8,↓dncl,↓dnlf]; done)) | ((with_reducible refine AW.cond_false ?_ ?_); · (simp (maxSteps := 3000000) (maxDischargeDepth := 12) only [seval,push_cast,appendX,dcml,dcw1,dcw2,dci,dcj,dci2,dci0,dcel,dcw,dcb,↓dnlO,dcL,↓dnapp5,↓dnapp7,↓dnapp8,↓dncl,↓dnlf]; done)) | simp (maxSteps := 3000000) (maxDischargeDepth := 12) only [seval,push_cast,appendX,Try.results7,dcml,dcw1,dcw2,dci,dcj,dci2,dci0,dcel,dcw,dcb,↓dnlO,dcL,↓dnapp5,↓dnapp7,↓dnapp8,↓dncl,↓dnlf])
            refine ⟨p2, t2, nx, E, L ++ [⟨p, t, nx, E⟩], d5, dW8, H ++ [dh7], Pn.fork pl9 (pl8.frame hx9) hP.gd (by omega) (fun o ho => ⟨(old8 o ho).1.frame hx9, (old8 o ho).2⟩) (fun o ho => ?_) ?_ ?_ (hO8.frame hx9 (by simp)) (hh8.frame hx9 (by simp)) hP.hl (fun k o h h1 h2 => (hH8 k o h h1 h2).frame hx9 (by simp)) (hdh8.frame hx9 (by simp)), hEi, by simp; omega, by (simp only [push_cast, TellsL, tells_any, tells_refl])⟩
            · have h1 := Heap.lt (old8 o ho).1.po
              have h2 := Heap.lt (old8 o ho).1.pm
              exact ⟨by omega, by omega⟩
            · have := Heap.lt pl8.po; omega
            · have := Heap.lt pl8.pm; omega
          · have dcL : decide ((L.length : Int) < 8) = false := decide_eq_false (by omega)
            repeat (first | (with_reducible first | refine AW.seq ?_ | refine AW.block ?_ | refine AW.skip ?_ | refine AW.ret ?_ | refine AW.exit ?_ | refine AW.reg hT ?_) | ((with_reducible refine AW.cond_true ?_ ?_); · (simp (maxSteps := 3000000) (maxDischargeDepth := 12) only [seval,push_cast,appendX,dcml,dcw1,dcw2,dci,dcj,dci2,dci0,dcel,dcw,dcb,↓dnlO,dcL]; done)) | ((with_reducible refine AW.cond_false ?_ ?_); · (simp (maxSteps := 3000000) (maxDischargeDepth := 12) only [seval,push_cast,appendX,dcml,dcw1,dcw2,dci,dcj,dci2,dci0,dcel,dcw,dcb,↓dnlO,dcL]; done)) | simp (maxSteps := 3000000) (maxDischargeDepth := 12) only [seval,push_cast,appendX,Try.results7,dcml,dcw1,dcw2,dci,dcj,dci2,dci0,dcel,dcw,dcb,↓dnlO,dcL])
            exact ⟨p, t, nx, E, L, dO, dW, H, hP, hEi, hL8, by (simp only [push_cast, TellsL, tells_any, tells_refl])⟩
      clear hP hEi hL8
      clear p t nx E L dO dW H
      rintro ts σ5 ⟨p, t, nx, E, L, dO, dW, H, hP, hEi, hL8, hts⟩
      refine AW.told hts ?_
      clear hts
      cases hb : x.f0 with
      | true =>
        have dcb := hb
        repeat (first | (with_reducible first | refine AW.seq ?_ | refine AW.block ?_ | refine AW.skip ?_ | refine AW.ret ?_ | refine AW.exit ?_ | refine AW.reg hT ?_) | ((with_reducible refine AW.cond_true ?_ ?_); · (simp (maxSteps := 3000000) (maxDischargeDepth := 12) only [seval,push_cast,appendX,dcml,dcw1,dcw2,dci,dcj,dci2,dci0,dcel,dcw,dcb]; done)) | ((with_reducible refine AW.cond_false ?_ ?_); · (simp (maxSteps := 3000000) (maxDischargeDepth := 12) only [seval,push_cast,appendX,dcml,dcw1,dcw2,dci,dcj,dci2,dci0,dcel,dcw,dcb]; done)) | simp (maxSteps := 3000000) (maxDischargeDepth := 12) only [seval,push_cast,appendX,Try.results7,dcml,dcw1,dcw2,dci,dcj,dci2,dci0,dcel,dcw,dcb])
        refine AOpsL.call (first := []) (cap := []) hT rfl rfl rfl fn12 rfl (ACalls.mono (drop_any _ hP.pl hP.gd hxw.2.2) ?_)
        rintro y σ6 hh
        rcases hh with ⟨j, s, hj2, rfl, hp6, hg6, hx6⟩ | ⟨hno, rfl, rfl⟩
        · repeat (first | (with_reducible first | refine AW.seq ?_ | refine AW.block ?_ | refine AW.skip ?_ | refine AW.ret ?_ | refine AW.exit ?_ | refine AW.reg hT ?_) | ((with_reducible refine AW.cond_true ?_ ?_); · (simp (maxSteps := 3000000) (maxDischargeDepth := 12) only [seval,push_cast,appendX,dcml,dcw1,dcw2,dci,dcj,dci2,dci0,dcel,dcw,dcb]; done)) | ((with_reducible refine AW.cond_false ?_ ?_); · (simp (maxSteps := 3000000) (maxDischargeDepth := 12) only [seval,push_cast,appendX,dcml,dcw1,dcw2,dci,dcj,dci2,dci0,dcel,dcw,dcb]; done)) | simp (maxSteps := 3000000) (maxDischargeDepth := 12) only [seval,push_cast,appendX,Try.results7,dcml,dcw1,dcw2,dci,dcj,dci2,dci0,dcel,dcw,dcb])
          have hjl := (List.getElem?_eq_some_iff.1 hj2).1
          exact ⟨acts.length + 1 - (i + 1), by omega, i + 1, p, t, nx, _, L, dO, dW, H, rfl, by omega, by omega, hP.act (hx6.mono (by simp)) hp6 hg6, by rw [List.length_eraseIdx, if_pos hjl]; omega, hL8, by (simp only [push_cast, TellsL, tells_any, tells_refl])⟩
        · repeat (first | (with_reducible first | refine AW.seq ?_ | refine AW.block ?_ | refine AW.skip ?_ | refine AW.ret ?_ | refine AW.exit ?_ | refine AW.reg hT ?_) | ((with_reducible refine AW.cond_true ?_ ?_); · (simp (maxSteps := 3000000) (maxDischargeDepth := 12) only [seval,push_cast,appendX,dcml,dcw1,dcw2,dci,dcj,dci2,dci0,dcel,dcw,dcb]; done)) | ((with_reducible refine AW.cond_false ?_ ?_); · (simp (maxSteps := 3000000) (maxDischargeDepth := 12) only [seval,push_cast,appendX,dcml,dcw1,dcw2,dci,dcj,dci2,dci0,dcel,dcw,dcb]; done)) | simp (maxSteps := 3000000) (maxDischargeDepth := 12) only [seval,push_cast,appendX,Try.results7,dcml,dcw1,dcw2,dci,dcj,dci2,dci0,dcel,dcw,dcb])
          exact ⟨acts.length + 1 - (i + 1), by omega, i + 1, p, t, nx, E, L, dO, dW, H, rfl, by omega, by omega, hP, by omega, hL8, by (simp only [push_cast, TellsL, tells_any, tells_refl])⟩
      | false =>
        have dcb := hb
        repeat (first | (with_reducible first | refine AW.seq ?_ | refine AW.block ?_ | refine AW.skip ?_ | refine AW.ret ?_ | refine AW.exit ?_ | refine AW.reg hT ?_) | ((with_reducible refine AW.cond_true ?_ ?_); · (simp (maxSteps := 3000000) (maxDischargeDepth := 12) only [seval,push_cast,appendX,dcml,dcw1,dcw2,dci,dcj,dci2,dci0,dcel,dcw,dcb]; done)) | ((with_reducible refine AW.cond_false ?_ ?_); · (simp (maxSteps := 3000000) (maxDischargeDepth := 12) only [seval,push_cast,appendX,dcml,dcw1,dcw2,dci,dcj,dci2,dci0,dcel,dcw,dcb]; done)) | simp (maxSteps := 3000000) (maxDischargeDepth := 12) only [seval,push_cast,appendX,Try.results7,dcml,dcw1,dcw2,dci,dcj,dci2,dci0,dcel,dcw,dcb])
        refine AOpsL.call (first := []) (cap := []) hT rfl rfl rfl fn13 rfl (ACalls.mono (take_any _ hP.pl hP.gd) ?_)
        rintro y σ6 hh
        rcases hh with ⟨hle, rfl, ⟨s, hp6, hg6⟩, hx6⟩ | ⟨hnx, rfl, rfl⟩
        · repeat (first | (with_reducible first | refine AW.seq ?_ | refine AW.block ?_ | refine AW.skip ?_ | refine AW.ret ?_ | refine AW.exit ?_ | refine AW.reg hT ?_) | ((with_reducible refine AW.cond_true ?_ ?_); · (simp (maxSteps := 3000000) (maxDischargeDepth := 12) only [seval,push_cast,appendX,dcml,dcw1,dcw2,dci,dcj,dci2,dci0,dcel,dcw,dcb]; done)) | ((with_reducible refine AW.cond_false ?_ ?_); · (simp (maxSteps := 3000000) (maxDischargeDepth := 12) only [seval,push_cast,appendX,dcml,dcw1,dcw2,dci,dcj,dci2,dci0,dcel,dcw,dcb]; done)) | simp (maxSteps := 3000000) (maxDischargeDepth := 12) only [seval,push_cast,appendX,Try.results7,dcml,dcw1,dcw2,dci,dcj,dci2,dci0,dcel,dcw,dcb])
          exact ⟨acts.length + 1 - (i + 1), by omega, i + 1, p, t, nx + 1, _, L, dO, dW, H, rfl, by omega, by omega, hP.act hx6 hp6 hg6, by simp; omega, hL8, by (simp only [push_cast, TellsL, tells_any, tells_refl])⟩
        · repeat (first | (with_reducible first | refine AW.seq ?_ | refine AW.block ?_ | refine AW.skip ?_ | refine AW.ret ?_ | refine AW.exit ?_ | refine AW.reg hT ?_) | ((with_reducible refine AW.cond_true ?_ ?_); · (simp (maxSteps := 3000000) (maxDischargeDepth := 12) only [seval,push_cast,appendX,dcml,dcw1,dcw2,dci,dcj,dci2,dci0,dcel,dcw,dcb]; done)) | ((with_reducible refine AW.cond_false ?_ ?_); · (simp (maxSteps := 3000000) (maxDischargeDepth := 12) only [seval,push_cast,appendX,dcml,dcw1,dcw2,dci,dcj,dci2,dci0,dcel,dcw,dcb]; done)) | simp (maxSteps := 3000000) (maxDischargeDepth := 12) only [seval,push_cast,appendX,Try.results7,dcml,dcw1,dcw2,dci,dcj,dci2,dci0,dcel,dcw,dcb])
          exact ⟨acts.length + 1 - (i + 1), by omega, i + 1, p, t, nx, E, L, dO, dW, H, rfl, by omega, by omega, hP, by omega, hL8, by (simp only [push_cast, TellsL, tells_any, tells_refl])⟩
    by_cases hi_ : i < acts.length
    · have dci : decide ((i : Int) < (acts.length : Int)) = true := decide_eq_true (by omega)
      have dcj : decide ((i : Int) < 100) = false := decide_eq_false (by omega)
      repeat (first | (with_reducible first | refine AW.seq ?_ | refine AW.block ?_ | refine AW.skip ?_ | refine AW.ret ?_ | refine AW.exit ?_ | refine AW.reg hT ?_) | ((with_reducible refine AW.cond_true ?_ ?_); · (simp (maxSteps := 3000000) (maxDischargeDepth := 12) only [seval,push_cast,appendX,dcml,dcw1,dcw2,dci,dcj]; done)) | ((with_reducible refine AW.cond_false ?_ ?_); · (simp (maxSteps := 3000000) (maxDischargeDepth := 12) only [seval,push_cast,appendX,dcml,dcw1,dcw2,dci,dcj]; done)) | simp (maxSteps := 3000000) (maxDischargeDepth := 12) only [seval,push_cast,appendX,Try.results7,dcml,dcw1,dcw2,dci,dcj])
      exact ⟨p, t, nx, E, L, dO, dW, H, hP, hL8, by (simp only [push_cast, TellsL, tells_any, tells_refl])⟩
    · have dci : decide ((i : Int) < (acts.length : Int)) = false := decide_eq_false (by omega)
      repeat (first | (with_reducible first | refine AW.seq ?_ | refine AW.block ?_ | refine AW.skip ?_ | refine AW.ret ?_ | refine AW.exit ?_ | refine AW.reg hT ?_) | ((with_reducible refine AW.cond_true ?_ ?_); · (simp (maxSteps := 3000000) (maxDischargeDepth := 12) only [seval,push_cast,appendX,dcml,dcw1,dcw2,dci]; done)) | ((with_reducible refine AW.cond_false ?_ ?_); · (simp (maxSteps := 3000000) (maxDischargeDepth := 12) only [seval,push_cast,appendX,dcml,dcw1,dcw2,dci]; done)) | simp (maxSteps := 3000000) (maxDischargeDepth := 12) only [seval,push_cast,appendX,Try.results7,dcml,dcw1,dcw2,dci])
      exact ⟨p, t, nx, E, L, dO, dW, H, hP, hL8, by (simp only [push_cast, TellsL, tells_any, tells_refl])⟩
  clear hp hpn htn hx2
  clear p t
  rintro ts σ5 ⟨p, t, nx, E, L, dO, dW, H, hP, hL8, hts⟩
  refine AW.told hts ?_
  clear hts
  have dnlO : lenD T 52 dO = some (L.length : Int) := by
    have := hP.hO.len (T := T) (ty := 52) rfl
    rw [List.length_map] at this
    exact this
  repeat (first | (with_reducible first | refine AW.seq ?_ | refine AW.block ?_ | refine AW.skip ?_ | refine AW.ret ?_ | refine AW.exit ?_ | refine AW.reg hT ?_) | ((with_reducible refine AW.cond_true ?_ ?_); · (simp (maxSteps := 3000000) (maxDischargeDepth := 12) only [seval,push_cast,appendX,dcml,dcw1,dcw2,↓dnlO]; done)) | ((with_reducible refine AW.cond_false ?_ ?_); · (simp (maxSteps := 3000000) (maxDischargeDepth := 12) only [seval,push_cast,appendX,dcml,dcw1,dcw2,↓dnlO]; done)) | simp (maxSteps := 3000000) (maxDischargeDepth := 12) only [seval,push_cast,appendX,Try.results7,dcml,dcw1,dcw2,↓dnlO])
  refine AW.loop (nbF p t nx E L dO dW H) (m := L.length + 1) ⟨0, rfl, Nat.zero_le _, hP, by (simp only [push_cast, TellsL, tells_any, tells_refl])⟩ ?_
  clear dnlO hP
  rintro m ts σ6 ⟨i, rfl, hil, hP, hts⟩
  refine AW.told hts ?_
  clear hts
  by_cases hi : i < L.length
  · have dci : decide ((i : Int) < (L.length : Int)) = true := decide_eq_true (by omega)
    have dci2 : ((i : Int) < (L.length : Int)) = True := by simp; omega
    have dci0 : ((0 : Int) ≤ (i : Int)) = True := by simp
    have dcwi : IntKind.i64.wrap ((i : Int) + 1) = (i : Int) + 1 := wrap_i64 (by omega) (by omega)
    have hl := hP.hl
    obtain ⟨o, ho⟩ : ∃ o, L[i]? = some o := ⟨_, List.getElem?_eq_getElem hi⟩
    obtain ⟨h, hh⟩ : ∃ h, H[i]? = some h := ⟨_, List.getElem?_eq_getElem (by omega)⟩
    obtain ⟨hpo, hgo, hEo⟩ := hP.old o (List.mem_of_getElem? ho)
    have hwo := hP.hH i o h ho hh
    have g1 := hgo.rt
    have g2 := hgo.lo_
    have g3 := hgo.hi_
    unfold right at g1
    obtain ⟨tO, fO, hdO, gO, eO⟩ := hP.hO.at_ (i := i) (by simpa using hi)
    obtain ⟨tW, fW, hdW, gW, eW⟩ := hP.hW.at_ (i := i) (by simp; omega)
    have dceO : fO[i]? = some [.ptr o.p 0 0 1] := by
      rw [eO]
      simp only [List.getElem_map]
      rw [List.getElem?_eq_getElem hi] at ho
      rw [Option.some.inj ho]; rfl
    have dceW : fW[i]? = some [h] := by
      rw [eW]
      simp only [List.getElem_map]
      rw [List.getElem?_eq_getElem (by omega)] at hh
      rw [Option.some.inj hh]
    rw [List.length_map] at hdO hdW
    rw [hl] at hdW
    subst hdO; subst hdW
    have gtO := gO
    have gtW := gW
    repeat (first | (with_reducible first | refine AW.seq ?_ | refine AW.block ?_ | refine AW.skip ?_ | refine AW.ret ?_ | refine AW.exit ?_ | refine AW.reg hT ?_) | ((with_reducible show AW _ (.region 30 _ _) _ _ _); (with_reducible refine AW.drawn (id := 30) hT [0,1,2,3,5,6,7,8,12,13,14,15,4,9,10,11,16,17] [[],[],[0,1],[0,1,2],[0,1,2,3],[],[],[5,6],[5,6,7],[0,1,2,3,4,5,6,7,8],[0,1,2,3,4,5,6,7,8,9],[0,1,2,3,4,5,6,7,8,9,10],[],[],[12,13],[12,13,14],[0,1,2,3,4,5,6,7,8,9,10,11,12,13,14,15],[0,1,2,3,4,5,6,7,8,9,10,11,12,13,14,15,16]] mix (by kernel_rfl) ?_)) | ((with_reducible show DLeft _ _ _ _ (_ :: _) _ _ _ _); (with_reducible apply DLeft.step hT); (case hoi => ((simp only [List.getElem?_toArray,List.getElem?_cons_zero,List.getElem?_cons_succ]); with_reducible rfl)); (case hg => rfl); (case hk => rfl); (case hr => ((try simp (maxSteps := 3000000) (maxDischargeDepth := 12) only [seval,push_cast,appendX,Try.results7,dcml,dcw1,dcw2,dci,dci2,dci0,dcwi,dceO,dceW,gtO,Heap.lt gtO,gtW,Heap.lt gtW]); with_reducible rfl))) | ((with_reducible refine AW.cond_true ?_ ?_); · (simp (maxSteps := 3000000) (maxDischargeDepth := 12) only [seval,push_cast,appendX,dcml,dcw1,dcw2,dci,dci2,dci0,dcwi,dceO,dceW,gtO,Heap.lt gtO,gtW,Heap.lt gtW]; done)) | ((with_reducible refine AW.cond_false ?_ ?_); · (simp (maxSteps := 3000000) (maxDischargeDepth := 12) only [seval,push_cast,appendX,dcml,dcw1,dcw2,dci,dci2,dci0,dcwi,dceO,dceW,gtO,Heap.lt gtO,gtW,Heap.lt gtW]; done)) | simp (maxSteps := 3000000) (maxDischargeDepth := 12) only [seval,push_cast,appendX,Try.results7,dcml,dcw1,dcw2,dci,dci2,dci0,dcwi,dceO,dceW,gtO,Heap.lt gtO,gtW,Heap.lt gtW])
    ((apply DLeft.call (f := 16) (first := []) (cap := [])); (case hoi => ((simp only [List.getElem?_toArray, List.getElem?_cons_zero, List.getElem?_cons_succ]); with_reducible rfl)); (case hg => rfl); (case ho => rfl); (case hc => rfl); (case hf => exact fn16); (case has => rfl)); refine ACalls.mono (outE_ok _ hpo (by omega)) ?_
    rintro dx σ7 ⟨hdx, hdn, hx7⟩
    have gtO7 := hx7.get gO (by simp)
    have gtW7 := hx7.get gW (by simp)
    have hpo7 := hpo.frame hx7
    repeat (first | (with_reducible first | refine AW.seq ?_ | refine AW.block ?_ | refine AW.skip ?_ | refine AW.ret ?_ | refine AW.exit ?_ | refine AW.reg hT ?_) | ((with_reducible show AW _ (.region 30 _ _) _ _ _); (with_reducible refine AW.drawn (id := 30) hT [0,1,2,3,5,6,7,8,12,13,14,15,4,9,10,11,16,17] [[],[],[0,1],[0,1,2],[0,1,2,3],[],[],[5,6],[5,6,7],[0,1,2,3,4,5,6,7,8],[0,1,2,3,4,5,6,7,8,9],[0,1,2,3,4,5,6,7,8,9,10],[],[],[12,13],[12,13,14],[0,1,2,3,4,5,6,7,8,9,10,11,12,13,14,15],[0,1,2,3,4,5,6,7,8,9,10,11,12,13,14,15,16]] mix (by kernel_rfl) ?_)) | ((with_reducible show DLeft _ _ _ _ (_ :: _) _ _ _ _); (with_reducible apply DLeft.step hT); (case hoi => ((simp only [List.getElem?_toArray,List.getElem?_cons_zero,List.getElem?_cons_succ]); with_reducible rfl)); (case hg => rfl); (case hk => rfl); (case hr => ((try simp (maxSteps := 3000000) (maxDischargeDepth := 12) only [seval,push_cast,appendX,Try.results7,dcml,dcw1,dcw2,dci,dci2,dci0,dcwi,dceO,dceW,gtO,Heap.lt gtO,gtW,Heap.lt gtW,gtO7,Heap.lt gtO7,gtW7,Heap.lt gtW7]); with_reducible rfl))) | ((with_reducible refine AW.cond_true ?_ ?_); · (simp (maxSteps := 3000000) (maxDischargeDepth := 12) only [seval,push_cast,appendX,dcml,dcw1,dcw2,dci,dci2,dci0,dcwi,dceO,dceW,gtO,Heap.lt gtO,gtW,Heap.lt gtW,gtO7,Heap.lt gtO7,gtW7,Heap.lt gtW7]; done)) | ((with_reducible refine AW.cond_false ?_ ?_); · (simp (maxSteps := 3000000) (maxDischargeDepth := 12) only [seval,push_cast,appendX,dcml,dcw1,dcw2,dci,dci2,dci0,dcwi,dceO,dceW,gtO,Heap.lt gtO,gtW,Heap.lt gtW,gtO7,Heap.lt gtO7,gtW7,Heap.lt gtW7]; done)) | simp (maxSteps := 3000000) (maxDischargeDepth := 12) only [seval,push_cast,appendX,Try.results7,dcml,dcw1,dcw2,dci,dci2,dci0,dcwi,dceO,dceW,gtO,Heap.lt gtO,gtW,Heap.lt gtW,gtO7,Heap.lt gtO7,gtW7,Heap.lt gtW7])
    ((apply DLeft.call (f := 18) (first := []) (cap := [])); (case hoi => ((simp only [List.getElem?_toArray, List.getElem?_cons_zero, List.getElem?_cons_succ]); with_reducible rfl)); (case hg => rfl); (case ho => rfl); (case hc => rfl); (case hf => exact fn18); (case has => rfl)); refine ACalls.mono (left_ok _ hpo7 (by omega) (by omega) (by omega) (by omega)) ?_
    rintro y s7 ⟨rfl, rfl⟩
    have xq : Ext [] s7 (s7.push ⟨[[.sc (.int .i64 (99 - o.nx + 1))]], 3, true⟩) := (Ext.refl _ _).push _
    obtain ⟨dx8, σ8, dnapp8, hh8, hx8, _⟩ := Hold.append (T := T) (ty := 27) (x := .sl s7.n 0 1 1) (xs := [[.sc (.int .i64 (99 - o.nx + 1))]]) (σ := s7.push ⟨[[.sc (.int .i64 (99 - o.nx + 1))]], 3, true⟩) (hdx.frame xq (by simp)) rfl rfl (by decide) (by simp [sliceD, getO]) (by simp) (by simp) (by rw [List.length_map, (srt_perm _).length_eq, List.length_map]; simp; omega)
    have hx68 : Ext [] σ6 σ8 := (hx7.trans xq).then hx8 (fun z hz hl2 => absurd (hdn z hz) (by omega))
    have gtO8 := hx68.get gO (by simp)
    have gtW8 := hx68.get gW (by simp)
    have hw8 := hwo.frame hx68 (by simp)
    have hh8' : Hold σ8 dx8 3 ((wasOf o).map eZ') := by simpa [wasOf, eZ'] using hh8
    have hwl : (wasOf o).length ≤ 1000000 := by
      unfold wasOf
      rw [List.length_append, (srt_perm _).length_eq, List.length_map]
      simp; omega
    have hwne : wasOf o ≠ [] := by simp [wasOf]
    repeat (first | (with_reducible first | refine AW.seq ?_ | refine AW.block ?_ | refine AW.skip ?_ | refine AW.ret ?_ | refine AW.exit ?_ | refine AW.reg hT ?_) | ((with_reducible show AW _ (.region 30 _ _) _ _ _); (with_reducible refine AW.drawn (id := 30) hT [0,1,2,3,5,6,7,8,12,13,14,15,4,9,10,11,16,17] [[],[],[0,1],[0,1,2],[0,1,2,3],[],[],[5,6],[5,6,7],[0,1,2,3,4,5,6,7,8],[0,1,2,3,4,5,6,7,8,9],[0,1,2,3,4,5,6,7,8,9,10],[],[],[12,13],[12,13,14],[0,1,2,3,4,5,6,7,8,9,10,11,12,13,14,15],[0,1,2,3,4,5,6,7,8,9,10,11,12,13,14,15,16]] mix (by kernel_rfl) ?_)) | ((with_reducible show DLeft _ _ _ _ (_ :: _) _ _ _ _); (with_reducible apply DLeft.step hT); (case hoi => ((simp only [List.getElem?_toArray,List.getElem?_cons_zero,List.getElem?_cons_succ]); with_reducible rfl)); (case hg => rfl); (case hk => rfl); (case hr => ((try simp (maxSteps := 3000000) (maxDischargeDepth := 12) only [seval,push_cast,appendX,Try.results7,dcml,dcw1,dcw2,dci,dci2,dci0,dcwi,dceO,dceW,gtO,Heap.lt gtO,gtW,Heap.lt gtW,gtO7,Heap.lt gtO7,gtW7,Heap.lt gtW7,↓dnapp8,gtO8,Heap.lt gtO8,gtW8,Heap.lt gtW8]); with_reducible rfl))) | ((with_reducible refine AW.cond_true ?_ ?_); · (simp (maxSteps := 3000000) (maxDischargeDepth := 12) only [seval,push_cast,appendX,dcml,dcw1,dcw2,dci,dci2,dci0,dcwi,dceO,dceW,gtO,Heap.lt gtO,gtW,Heap.lt gtW,gtO7,Heap.lt gtO7,gtW7,Heap.lt gtW7,↓dnapp8,gtO8,Heap.lt gtO8,gtW8,Heap.lt gtW8]; done)) | ((with_reducible refine AW.cond_false ?_ ?_); · (simp (maxSteps := 3000000) (maxDischargeDepth := 12) only [seval,push_cast,appendX,dcml,dcw1,dcw2,dci,dci2,dci0,dcwi,dceO,dceW,gtO,Heap.lt gtO,gtW,Heap.lt gtW,gtO7,Heap.lt gtO7,gtW7,Heap.lt gtW7,↓dnapp8,gtO8,Heap.lt gtO8,gtW8,Heap.lt gtW8]; done)) | simp (maxSteps := 3000000) (maxDischargeDepth := 12) only [seval,push_cast,appendX,Try.results7,dcml,dcw1,dcw2,dci,dci2,dci0,dcwi,dceO,dceW,gtO,Heap.lt gtO,gtW,Heap.lt gtW,gtO7,Heap.lt gtO7,gtW7,Heap.lt gtW7,↓dnapp8,gtO8,Heap.lt gtO8,gtW8,Heap.lt gtW8])
    ((apply DLeft.call (f := 15) (first := []) (cap := [])); (case hoi => ((simp only [List.getElem?_toArray, List.getElem?_cons_zero, List.getElem?_cons_succ]); with_reducible rfl)); (case hg => rfl); (case ho => rfl); (case hc => rfl); (case hf => exact fn15); (case has => rfl)); refine ACalls.mono (intsholds_ok _ (wasOf o) hh8' hw8 hwne hwl) ?_
    rintro y σ9 ⟨rfl, rfl⟩
    repeat (first | (with_reducible first | refine AW.seq ?_ | refine AW.block ?_ | refine AW.skip ?_ | refine AW.ret ?_ | refine AW.exit ?_ | refine AW.reg hT ?_) | ((with_reducible refine AW.cond_true ?_ ?_); · (simp (maxSteps := 3000000) (maxDischargeDepth := 12) only [seval,push_cast,appendX,dcml,dcw1,dcw2,dci,dci2,dci0,dcwi,dceO,dceW,gtO,Heap.lt gtO,gtW,Heap.lt gtW,gtO7,Heap.lt gtO7,gtW7,Heap.lt gtW7,↓dnapp8,gtO8,Heap.lt gtO8,gtW8,Heap.lt gtW8]; done)) | ((with_reducible refine AW.cond_false ?_ ?_); · (simp (maxSteps := 3000000) (maxDischargeDepth := 12) only [seval,push_cast,appendX,dcml,dcw1,dcw2,dci,dci2,dci0,dcwi,dceO,dceW,gtO,Heap.lt gtO,gtW,Heap.lt gtW,gtO7,Heap.lt gtO7,gtW7,Heap.lt gtW7,↓dnapp8,gtO8,Heap.lt gtO8,gtW8,Heap.lt gtW8]; done)) | simp (maxSteps := 3000000) (maxDischargeDepth := 12) only [seval,push_cast,appendX,Try.results7,dcml,dcw1,dcw2,dci,dci2,dci0,dcwi,dceO,dceW,gtO,Heap.lt gtO,gtW,Heap.lt gtW,gtO7,Heap.lt gtO7,gtW7,Heap.lt gtW7,↓dnapp8,gtO8,Heap.lt gtO8,gtW8,Heap.lt gtW8])
    exact ⟨L.length + 1 - (i + 1), by omega, i + 1, rfl, by omega, hP.more hx68, by (simp only [push_cast, TellsL, tells_any, tells_refl])⟩
  · have dci : decide ((i : Int) < (L.length : Int)) = false := decide_eq_false (by omega)
    repeat (first | (with_reducible first | refine AW.seq ?_ | refine AW.block ?_ | refine AW.skip ?_ | refine AW.ret ?_ | refine AW.exit ?_ | refine AW.reg hT ?_) | ((with_reducible refine AW.cond_true ?_ ?_); · (simp (maxSteps := 3000000) (maxDischargeDepth := 12) only [seval,push_cast,appendX,dcml,dcw1,dcw2,dci]; done)) | ((with_reducible refine AW.cond_false ?_ ?_); · (simp (maxSteps := 3000000) (maxDischargeDepth := 12) only [seval,push_cast,appendX,dcml,dcw1,dcw2,dci]; done)) | simp (maxSteps := 3000000) (maxDischargeDepth := 12) only [seval,push_cast,appendX,Try.results7,dcml,dcw1,dcw2,dci])
end Go.Proofs.Ythdamnemoaaigaa.Cm
