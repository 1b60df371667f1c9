/- The document's pool: Drop, Out, Left, Ints. -/
import Derived.Test.YthdamnemoaaigaaPool7
namespace Go.Proofs.Ythdamnemoaaigaa.Cm
open Go.RowKit
set_option linter.unusedVariables false
set_option linter.unusedSimpArgs false
set_option maxRecDepth 20000
set_option maxHeartbeats 8000000
def fdN (lo l : Int) (is : List Bool) : Nat → Bool
  | 0 => false
  | i + 1 => fdN lo l is i || (decide (lo + (i : Int) = l) && (is[i]?).getD false)
def rdI (lo l : Int) (is : List Bool) (q r : Nat) (B : Heap) (m : Nat) (ts : List DV) (σ : Heap) : Prop := ∃ (i : Nat) (e : DV), m = is.length + 1 - i ∧ i ≤ is.length ∧ Hold σ e 4 (((drp lo l is).take i).map eBo) ∧ (∀ x ∈ tOf e, B.n ≤ x) ∧ Ext [] B σ ∧ TellsL ts (.any :: .sc (.int .i64 l) :: .ptr q 0 0 1 :: .any :: .ptr r 0 0 1 :: .any :: .sc (.bool (fdN lo l is i)) :: e :: .sc (.int .i64 i) :: .any :: .any :: .any :: .any :: .any :: .any :: .any :: .any :: .any :: .any :: .any :: .any :: .any :: .any :: .any :: .any :: .any :: .any :: .any :: .any :: .any :: .any :: .any :: .any :: .any :: .any :: .any :: .any :: .any :: .any :: .any :: .any :: .any :: .any :: .any :: .any :: .any :: .any :: [])
theorem rdrop_ok (σ : Heap) (lo hi l : Int) (is : List Bool) (h0 : 0 ≤ lo) (h1 : lo ≤ 2000000) (hl : is.length ≤ 1000) : ACalls Try.prog 11 [.agg (mPc lo hi is), .sc (.int .i64 l)] σ (fun y σ' => ((fdN lo l is is.length = true ∧ y = .tup [.agg (mPc lo hi (drp lo l is)), .sc (.int .i64 0)]) ∨ (fdN lo l is is.length = false ∧ y = .tup [.agg (mPc lo hi is), .sc (.int .i64 8)])) ∧ Ext [] σ σ') := by
  have dcg : ((giv lo is.length).map eZ').length = is.length := by rw [List.length_map, giv_len]
  have dcb : (is.map eBo).length = is.length := by simp
  unfold mPc
  refine ACalls.code hT Try.func11 rfl ?_
  simp only [Try.ntmps11, List.length_cons, List.length_nil, Nat.reduceSub, Nat.reduceAdd, List.replicate, List.cons_append, List.nil_append]
  repeat (first | (with_reducible refine AW.seq ?_) | (with_reducible refine AW.block ?_) | (with_reducible refine AW.skip ?_) | (with_reducible refine AW.ret ?_) | (with_reducible refine AW.exit ?_) | (with_reducible refine AW.reg hT ?_) | ((with_reducible refine AW.cond_true ?_ ?_); · rfl) | ((with_reducible refine AW.cond_false ?_ ?_); · rfl) | simp (maxSteps := 3000000) (maxDischargeDepth := 12) only [push_cast,appendX,reduceIte,reduceCtorEq,Nat.reduceSub,Nat.reduceAdd,Nat.reduceMul,Nat.reduceLT,Nat.reduceLeDiff,Nat.reduceEqDiff,Nat.reduceBEq,Int.reduceToNat,Int.reduceLT,Int.reduceLE,Int.reduceEq,Int.reduceNeg,Try.results11,dcg,dcb])
  have hBB : ∃ B, B = (σ.push ⟨[[.sc (.int .i64 lo), .sc (.int .i64 hi), .imm ((giv lo is.length).map eZ'), .imm (is.map eBo)]], 30, true⟩).push ⟨[[.sc (.int .i64 0), .sc (.int .i64 0), .sc (.slice none 0 0), .sc (.slice none 0 0)]], 30, true⟩ := ⟨_, rfl⟩
  obtain ⟨B, hB⟩ := hBB
  have hqB : B.get σ.n = some ⟨[[.sc (.int .i64 lo), .sc (.int .i64 hi), .imm ((giv lo is.length).map eZ'), .imm (is.map eBo)]], 30, true⟩ := by rw [hB]; simp (maxSteps := 3000000) (maxDischargeDepth := 12) only [push_cast, appendX, Nat.reduceAdd, Nat.reduceEqDiff, Nat.reduceLT, Nat.reduceLeDiff, reduceIte, reduceCtorEq, dcg, dcb]
  have hrB : B.get (σ.n + 1) = some ⟨[[.sc (.int .i64 0), .sc (.int .i64 0), .sc (.slice none 0 0), .sc (.slice none 0 0)]], 30, true⟩ := by rw [hB]; simp (maxSteps := 3000000) (maxDischargeDepth := 12) only [push_cast, appendX, Nat.reduceAdd, Nat.reduceEqDiff, Nat.reduceLT, Nat.reduceLeDiff, reduceIte, reduceCtorEq, dcg, dcb]
  have hxB : Ext [] σ B := by rw [hB]; exact ((Ext.refl _ _).push _).push _
  rw [← hB]
  have hqr : σ.n ≠ σ.n + 1 := by omega
  have hqn : σ.n ≤ σ.n := Nat.le_refl _
  refine AW.loop (rdI lo l is σ.n (σ.n + 1) B) (m := is.length + 1) ⟨0, .sc (.slice none 0 0), rfl, Nat.zero_le _, Hold.nil _ _, by simp [tOf], Ext.refl _ _, by simp only [fdN]; (simp only [push_cast, TellsL, tells_any, tells_refl])⟩ ?_
  generalize hr : σ.n + 1 = r at hrB hqr ⊢
  generalize hq : σ.n = q at hqB hqr hqn ⊢
  clear hB
  rintro m ts σ3 ⟨i, e, rfl, hil, he, hne, hx3, hts⟩
  refine AW.told hts ?_
  clear hts
  have gtq := hx3.get hqB (by simp)
  have gtr := hx3.get hrB (by simp)
  have hle2 : (((drp lo l is).take i).map eBo).length = i := by rw [List.length_map, List.length_take, drp_len]; omega
  by_cases hi_ : i < is.length
  · have dci : decide ((i : Int) < (is.length : Int)) = true := decide_eq_true (by omega)
    have dci2 : ((i : Int) < (is.length : Int)) = True := by simp; omega
    have dci0 : ((0 : Int) ≤ (i : Int)) = True := by simp
    have dcwi : IntKind.i64.wrap ((i : Int) + 1) = (i : Int) + 1 := wrap_i64 (by omega) (by omega)
    obtain ⟨b, hb⟩ : ∃ b, b = is[i] := ⟨_, rfl⟩
    have hgb : is[i]? = some b := by rw [List.getElem?_eq_getElem hi_, hb]
    have hdt := drp_take lo l is i hi_
    rw [← hb] at hdt
    obtain ⟨g, hg⟩ : ∃ g, g = lo + (i : Int) := ⟨_, rfl⟩
    rw [← hg] at hdt
    have dceg : ((giv lo is.length).map eZ')[i]? = some [.sc (.int .i64 g)] := by rw [List.getElem?_map, giv_get hi_, hg]; rfl
    have dceb : (is.map eBo)[i]? = some [.sc (.bool b)] := by rw [List.getElem?_map, hgb]; rfl
    by_cases hgl : g = l
    · have dcgl : (g == l) = true := by simp [hgl]
      rw [if_pos hgl] at hdt
      obtain ⟨e7, σ7, dnapp7, hh7, hnew7, hx7, hx8⟩ := Hold.app1x (ty := 28) (x := [.sc (.bool false)]) (σ0 := B) (σ := σ3) he hne hx3 rfl rfl (by decide) rfl (by rw [hle2]; simp; omega)
      cases b with
      | true =>
        have hf : fdN lo l is (i + 1) = true := by rw [fdN, hgb, ← hg]; simp [hgl]
        repeat (first | (with_reducible refine AW.seq ?_) | (with_reducible refine AW.block ?_) | (with_reducible refine AW.skip ?_) | (with_reducible refine AW.ret ?_) | (with_reducible refine AW.exit ?_) | (with_reducible refine AW.reg hT ?_) | ((with_reducible refine AW.cond_true ?_ ?_); · rfl) | ((with_reducible refine AW.cond_false ?_ ?_); · rfl) | simp (maxSteps := 3000000) (maxDischargeDepth := 12) only [push_cast,appendX,reduceIte,reduceCtorEq,Nat.reduceSub,Nat.reduceAdd,Nat.reduceMul,Nat.reduceLT,Nat.reduceLeDiff,Nat.reduceEqDiff,Nat.reduceBEq,Int.reduceToNat,Int.reduceLT,Int.reduceLE,Int.reduceEq,Int.reduceNeg,Try.results11,dcg,dcb,gtq,Heap.lt gtq,gtr,Heap.lt gtr,dci,dci2,dci0,dcwi,dceg,dceb,dcgl,↓dnapp7])
        refine ⟨is.length + 1 - (i + 1), by omega, i + 1, e7, rfl, by omega, by rw [hdt, List.map_append]; exact hh7, hnew7, hx7, by rw [hf]; (simp only [push_cast, TellsL, tells_any, tells_refl])⟩
      | false =>
        have hf : fdN lo l is (i + 1) = fdN lo l is i := by rw [fdN, hgb]; simp
        repeat (first | (with_reducible refine AW.seq ?_) | (with_reducible refine AW.block ?_) | (with_reducible refine AW.skip ?_) | (with_reducible refine AW.ret ?_) | (with_reducible refine AW.exit ?_) | (with_reducible refine AW.reg hT ?_) | ((with_reducible refine AW.cond_true ?_ ?_); · rfl) | ((with_reducible refine AW.cond_false ?_ ?_); · rfl) | simp (maxSteps := 3000000) (maxDischargeDepth := 12) only [push_cast,appendX,reduceIte,reduceCtorEq,Nat.reduceSub,Nat.reduceAdd,Nat.reduceMul,Nat.reduceLT,Nat.reduceLeDiff,Nat.reduceEqDiff,Nat.reduceBEq,Int.reduceToNat,Int.reduceLT,Int.reduceLE,Int.reduceEq,Int.reduceNeg,Try.results11,dcg,dcb,gtq,Heap.lt gtq,gtr,Heap.lt gtr,dci,dci2,dci0,dcwi,dceg,dceb,dcgl,↓dnapp7])
        refine ⟨is.length + 1 - (i + 1), by omega, i + 1, e7, rfl, by omega, by rw [hdt, List.map_append]; exact hh7, hnew7, hx7, by rw [hf]; (simp only [push_cast, TellsL, tells_any, tells_refl])⟩
    · have dcgl : (g == l) = false := by simp [hgl]
      rw [if_neg hgl] at hdt
      have hf : fdN lo l is (i + 1) = fdN lo l is i := by rw [fdN, ← hg]; simp [hgl]
      obtain ⟨e7, σ7, dnapp7, hh7, hnew7, hx7, hx8⟩ := Hold.app1x (ty := 28) (x := [.sc (.bool b)]) (σ0 := B) (σ := σ3) he hne hx3 rfl rfl (by decide) rfl (by rw [hle2]; simp; omega)
      repeat (first | (with_reducible refine AW.seq ?_) | (with_reducible refine AW.block ?_) | (with_reducible refine AW.skip ?_) | (with_reducible refine AW.ret ?_) | (with_reducible refine AW.exit ?_) | (with_reducible refine AW.reg hT ?_) | ((with_reducible refine AW.cond_true ?_ ?_); · rfl) | ((with_reducible refine AW.cond_false ?_ ?_); · rfl) | simp (maxSteps := 3000000) (maxDischargeDepth := 12) only [push_cast,appendX,reduceIte,reduceCtorEq,Nat.reduceSub,Nat.reduceAdd,Nat.reduceMul,Nat.reduceLT,Nat.reduceLeDiff,Nat.reduceEqDiff,Nat.reduceBEq,Int.reduceToNat,Int.reduceLT,Int.reduceLE,Int.reduceEq,Int.reduceNeg,Try.results11,dcg,dcb,gtq,Heap.lt gtq,gtr,Heap.lt gtr,dci,dci2,dci0,dcwi,dceg,dceb,dcgl,↓dnapp7])
      refine ⟨is.length + 1 - (i + 1), by omega, i + 1, e7, rfl, by omega, by rw [hdt, List.map_append]; exact hh7, hnew7, hx7, by rw [hf]; (simp only [push_cast, TellsL, tells_any, tells_refl])⟩
  · have dci : decide ((i : Int) < (is.length : Int)) = false := decide_eq_false (by omega)
    have hie : i = is.length := by omega
    subst hie
    have hx13 : Ext [] σ σ3 := hxB.trans hx3
    have dcqr : (q = r) = False := by simp [hqr]
    have dcrq : (r = q) = False := by simp [Ne.symm hqr]
    rw [List.take_of_length_le (by rw [drp_len]; exact Nat.le_refl _)] at he
    generalize hfd : fdN lo l is is.length = f
    cases f with
    | true =>
      repeat ((fail_if_success (with_reducible refine AW.at1 (id := 12) ?_)); (fail_if_success (with_reducible refine AW.at2 (id := 12) ?_)); first | (with_reducible refine AW.seq ?_) | (with_reducible refine AW.block ?_) | (with_reducible refine AW.skip ?_) | (with_reducible refine AW.ret ?_) | (with_reducible refine AW.exit ?_) | (with_reducible refine AW.reg hT ?_) | ((with_reducible refine AW.cond_true ?_ ?_); · rfl) | ((with_reducible refine AW.cond_false ?_ ?_); · rfl) | simp (maxSteps := 3000000) (maxDischargeDepth := 12) only [push_cast,appendX,reduceIte,reduceCtorEq,Nat.reduceSub,Nat.reduceAdd,Nat.reduceMul,Nat.reduceLT,Nat.reduceLeDiff,Nat.reduceEqDiff,Nat.reduceBEq,Int.reduceToNat,Int.reduceLT,Int.reduceLE,Int.reduceEq,Int.reduceNeg,Try.results11,dcg,dcb,gtq,Heap.lt gtq,gtr,Heap.lt gtr,dci,dcqr,dcrq])
      refine AW.holdSlot (j := 7) he rfl (fun σ9 hx10 => ?_)
      have hx11 : Ext [] B σ9 := hx3.then hx10 (fun p hp hlp => absurd (hne p hp) (by omega))
      have gtq9 := hx11.get hqB (by simp)
      have gtr9 := hx11.get hrB (by simp)
      repeat (first | (with_reducible refine AW.seq ?_) | (with_reducible refine AW.block ?_) | (with_reducible refine AW.skip ?_) | (with_reducible refine AW.ret ?_) | (with_reducible refine AW.exit ?_) | (with_reducible refine AW.reg hT ?_) | ((with_reducible refine AW.cond_true ?_ ?_); · rfl) | ((with_reducible refine AW.cond_false ?_ ?_); · rfl) | simp (maxSteps := 3000000) (maxDischargeDepth := 12) only [push_cast,appendX,reduceIte,reduceCtorEq,Nat.reduceSub,Nat.reduceAdd,Nat.reduceMul,Nat.reduceLT,Nat.reduceLeDiff,Nat.reduceEqDiff,Nat.reduceBEq,Int.reduceToNat,Int.reduceLT,Int.reduceLE,Int.reduceEq,Int.reduceNeg,Try.results11,dcg,dcb,gtq,Heap.lt gtq,gtr,Heap.lt gtr,dci,dcqr,dcrq,gtq9,Heap.lt gtq9,gtr9,Heap.lt gtr9])
      refine ⟨?_, ?_⟩
      · simp [drp_len]
      · exact Ext.set (Ext.set (hxB.trans hx11) (.inl (by omega)) _) (.inl (by omega)) _
    | false =>
      repeat (first | (with_reducible refine AW.seq ?_) | (with_reducible refine AW.block ?_) | (with_reducible refine AW.skip ?_) | (with_reducible refine AW.ret ?_) | (with_reducible refine AW.exit ?_) | (with_reducible refine AW.reg hT ?_) | ((with_reducible refine AW.cond_true ?_ ?_); · rfl) | ((with_reducible refine AW.cond_false ?_ ?_); · rfl) | simp (maxSteps := 3000000) (maxDischargeDepth := 12) only [push_cast,appendX,reduceIte,reduceCtorEq,Nat.reduceSub,Nat.reduceAdd,Nat.reduceMul,Nat.reduceLT,Nat.reduceLeDiff,Nat.reduceEqDiff,Nat.reduceBEq,Int.reduceToNat,Int.reduceLT,Int.reduceLE,Int.reduceEq,Int.reduceNeg,Try.results11,dcg,dcb,gtq,Heap.lt gtq,gtr,Heap.lt gtr,dci,dcqr,dcrq])
      exact Ext.set hx13 (.inl (by omega)) _
def roI (lo : Int) (is : List Bool) (q : Nat) (B : Heap) (m : Nat) (ts : List DV) (σ : Heap) : Prop := ∃ (i : Nat) (d : DV), m = is.length + 1 - i ∧ i ≤ is.length ∧ Hold σ d 3 ((outN lo is i).map eZ') ∧ (∀ x ∈ tOf d, B.n ≤ x) ∧ Ext [] B σ ∧ TellsL ts (.any :: .ptr q 0 0 1 :: .any :: d :: .sc (.int .i64 i) :: .any :: .any :: .any :: .any :: .any :: .any :: .any :: .any :: .any :: .any :: .any :: .any :: .any :: .any :: .any :: .any :: .any :: .any :: .any :: .any :: .any :: [])
theorem rout_ok (σ : Heap) (lo hi : Int) (is : List Bool) (hl : is.length ≤ 1000) : ACalls Try.prog 17 [.agg (mPc lo hi is)] σ (fun y σ' => y = .imm ((outN lo is is.length).map eZ') ∧ Ext [] σ σ') := by
  have dcg : ((giv lo is.length).map eZ').length = is.length := by rw [List.length_map, giv_len]
  have dcb : (is.map eBo).length = is.length := by simp
  refine ACalls.toImmH (e := 3) ?_
  unfold mPc
  refine ACalls.code hT Try.func17 rfl ?_
  simp only [Try.ntmps17, List.length_cons, List.length_nil, Nat.reduceSub, Nat.reduceAdd, List.replicate, List.cons_append, List.nil_append]
  repeat (first | (with_reducible refine AW.seq ?_) | (with_reducible refine AW.block ?_) | (with_reducible refine AW.skip ?_) | (with_reducible refine AW.ret ?_) | (with_reducible refine AW.exit ?_) | (with_reducible refine AW.reg hT ?_) | ((with_reducible refine AW.cond_true ?_ ?_); · rfl) | ((with_reducible refine AW.cond_false ?_ ?_); · rfl) | simp (maxSteps := 3000000) (maxDischargeDepth := 12) only [push_cast,appendX,reduceIte,reduceCtorEq,Nat.reduceSub,Nat.reduceAdd,Nat.reduceMul,Nat.reduceLT,Nat.reduceLeDiff,Nat.reduceEqDiff,Nat.reduceBEq,Int.reduceToNat,Int.reduceLT,Int.reduceLE,Int.reduceEq,Int.reduceNeg,Try.results17,dcg,dcb])
  have hBB : ∃ B, B = σ.push ⟨[[.sc (.int .i64 lo), .sc (.int .i64 hi), .imm ((giv lo is.length).map eZ'), .imm (is.map eBo)]], 30, true⟩ := ⟨_, rfl⟩
  obtain ⟨B, hB⟩ := hBB
  have hqB : B.get σ.n = some ⟨[[.sc (.int .i64 lo), .sc (.int .i64 hi), .imm ((giv lo is.length).map eZ'), .imm (is.map eBo)]], 30, true⟩ := by rw [hB]; simp (maxSteps := 3000000) (maxDischargeDepth := 12) only [push_cast, appendX, Nat.reduceAdd, Nat.reduceEqDiff, Nat.reduceLT, Nat.reduceLeDiff, reduceIte, reduceCtorEq, dcg, dcb]
  have hxB : Ext [] σ B := by rw [hB]; exact (Ext.refl _ _).push _
  rw [← hB]
  refine AW.loop (roI lo is σ.n B) (m := is.length + 1) ⟨0, .sc (.slice none 0 0), rfl, Nat.zero_le _, Hold.nil _ _, by simp [tOf], Ext.refl _ _, by (simp only [push_cast, TellsL, tells_any, tells_refl])⟩ ?_
  generalize hq : σ.n = q at hqB ⊢
  clear hB
  rintro m ts σ3 ⟨i, d, rfl, hil, hd, hnd, hx3, hts⟩
  refine AW.told hts ?_
  clear hts
  have gtq := hx3.get hqB (by simp)
  have hol := outN_len lo is i
  by_cases hi_ : i < is.length
  · have dci : decide ((i : Int) < (is.length : Int)) = true := decide_eq_true (by omega)
    have dci2 : ((i : Int) < (is.length : Int)) = True := by simp; omega
    have dci0 : ((0 : Int) ≤ (i : Int)) = True := by simp
    have dcwi : IntKind.i64.wrap ((i : Int) + 1) = (i : Int) + 1 := wrap_i64 (by omega) (by omega)
    obtain ⟨b, hb⟩ : ∃ b, b = is[i] := ⟨_, rfl⟩
    have hgb : is[i]? = some b := by rw [List.getElem?_eq_getElem hi_, hb]
    obtain ⟨g, hg⟩ : ∃ g, g = lo + (i : Int) := ⟨_, rfl⟩
    have dceg : ((giv lo is.length).map eZ')[i]? = some [.sc (.int .i64 g)] := by rw [List.getElem?_map, giv_get hi_, hg]; rfl
    have dceb : (is.map eBo)[i]? = some [.sc (.bool b)] := by rw [List.getElem?_map, hgb]; rfl
    cases b with
    | true =>
      have ho : outN lo is (i + 1) = outN lo is i ++ [g] := by rw [outN, hgb, hg]; simp
      obtain ⟨d5, σ5, dnapp, hh5, hnew5, hx5, hx6⟩ := Hold.app1x (ty := 27) (x := [.sc (.int .i64 g)]) (σ0 := B) (σ := σ3) hd hnd hx3 rfl rfl (by decide) rfl (by rw [List.length_map]; simp; omega)
      repeat (first | (with_reducible refine AW.seq ?_) | (with_reducible refine AW.block ?_) | (with_reducible refine AW.skip ?_) | (with_reducible refine AW.ret ?_) | (with_reducible refine AW.exit ?_) | (with_reducible refine AW.reg hT ?_) | ((with_reducible refine AW.cond_true ?_ ?_); · rfl) | ((with_reducible refine AW.cond_false ?_ ?_); · rfl) | simp (maxSteps := 3000000) (maxDischargeDepth := 12) only [push_cast,appendX,reduceIte,reduceCtorEq,Nat.reduceSub,Nat.reduceAdd,Nat.reduceMul,Nat.reduceLT,Nat.reduceLeDiff,Nat.reduceEqDiff,Nat.reduceBEq,Int.reduceToNat,Int.reduceLT,Int.reduceLE,Int.reduceEq,Int.reduceNeg,Try.results17,dcg,dcb,gtq,Heap.lt gtq,dci,dci2,dci0,dcwi,dceg,dceb,↓dnapp])
      exact ⟨is.length + 1 - (i + 1), by omega, i + 1, d5, rfl, by omega, by rw [ho, List.map_append]; exact hh5, hnew5, hx5, by (simp only [push_cast, TellsL, tells_any, tells_refl])⟩
    | false =>
      have ho : outN lo is (i + 1) = outN lo is i := by rw [outN, hgb]; simp
      repeat (first | (with_reducible refine AW.seq ?_) | (with_reducible refine AW.block ?_) | (with_reducible refine AW.skip ?_) | (with_reducible refine AW.ret ?_) | (with_reducible refine AW.exit ?_) | (with_reducible refine AW.reg hT ?_) | ((with_reducible refine AW.cond_true ?_ ?_); · rfl) | ((with_reducible refine AW.cond_false ?_ ?_); · rfl) | simp (maxSteps := 3000000) (maxDischargeDepth := 12) only [push_cast,appendX,reduceIte,reduceCtorEq,Nat.reduceSub,Nat.reduceAdd,Nat.reduceMul,Nat.reduceLT,Nat.reduceLeDiff,Nat.reduceEqDiff,Nat.reduceBEq,Int.reduceToNat,Int.reduceLT,Int.reduceLE,Int.reduceEq,Int.reduceNeg,Try.results17,dcg,dcb,gtq,Heap.lt gtq,dci,dci2,dci0,dcwi,dceg,dceb])
      exact ⟨is.length + 1 - (i + 1), by omega, i + 1, d, rfl, by omega, by rw [ho]; exact hd, hnd, hx3, by (simp only [push_cast, TellsL, tells_any, tells_refl])⟩
  · have dci : decide ((i : Int) < (is.length : Int)) = false := decide_eq_false (by omega)
    have hie : i = is.length := by omega
    subst hie
    have dncl := hd.cells
    have dnlf := hd.leaf
    repeat (first | (with_reducible refine AW.seq ?_) | (with_reducible refine AW.block ?_) | (with_reducible refine AW.skip ?_) | (with_reducible refine AW.ret ?_) | (with_reducible refine AW.exit ?_) | (with_reducible refine AW.reg hT ?_) | ((with_reducible refine AW.cond_true ?_ ?_); · rfl) | ((with_reducible refine AW.cond_false ?_ ?_); · rfl) | simp (maxSteps := 3000000) (maxDischargeDepth := 12) only [push_cast,appendX,reduceIte,reduceCtorEq,Nat.reduceSub,Nat.reduceAdd,Nat.reduceMul,Nat.reduceLT,Nat.reduceLeDiff,Nat.reduceEqDiff,Nat.reduceBEq,Int.reduceToNat,Int.reduceLT,Int.reduceLE,Int.reduceEq,Int.reduceNeg,Try.results17,dcg,dcb,gtq,Heap.lt gtq,dci,↓dncl,↓dnlf])
    exact ⟨hd, fun x hx => by have h1 := hxB.1; have h2 := hnd x hx; omega, hxB.trans hx3⟩
theorem rleft_ok (σ : Heap) (lo hi : Int) (is : List Bool) (h0 : 0 ≤ lo) (h1 : lo ≤ 2000000) (h2 : 0 ≤ hi) (h3 : hi ≤ 2000000) (hl : is.length ≤ 1000) : ACalls Try.prog 19 [.agg (mPc lo hi is)] σ (fun y σ' => y = .sc (.int .i64 (hi - lo + 1 - (is.length : Int))) ∧ Ext [] σ σ') := by
  have dcg : ((giv lo is.length).map eZ').length = is.length := by rw [List.length_map, giv_len]
  have dcw1 : IntKind.i64.wrap (hi - lo) = hi - lo := wrap_i64 (by omega) (by omega)
  have dcw2 : IntKind.i64.wrap (hi - lo + 1) = hi - lo + 1 := wrap_i64 (by omega) (by omega)
  have dcw3 : IntKind.i64.wrap (hi - lo + 1 - (is.length : Int)) = hi - lo + 1 - (is.length : Int) := wrap_i64 (by omega) (by omega)
  unfold mPc
  refine ACalls.code hT Try.func19 rfl ?_
  simp only [Try.ntmps19, List.length_cons, List.length_nil, Nat.reduceSub, Nat.reduceAdd, List.replicate, List.cons_append, List.nil_append]
  repeat (first | (with_reducible refine AW.seq ?_) | (with_reducible refine AW.block ?_) | (with_reducible refine AW.skip ?_) | (with_reducible refine AW.ret ?_) | (with_reducible refine AW.exit ?_) | (with_reducible refine AW.reg hT ?_) | ((with_reducible refine AW.cond_true ?_ ?_); · rfl) | ((with_reducible refine AW.cond_false ?_ ?_); · rfl) | simp (maxSteps := 3000000) (maxDischargeDepth := 12) only [push_cast,appendX,reduceIte,reduceCtorEq,Nat.reduceSub,Nat.reduceAdd,Nat.reduceMul,Nat.reduceLT,Nat.reduceLeDiff,Nat.reduceEqDiff,Nat.reduceBEq,Int.reduceToNat,Int.reduceLT,Int.reduceLE,Int.reduceEq,Int.reduceNeg,Try.results19,dcg,dcw1,dcw2,dcw3])
  repeat (first | exact Ext.refl _ _ | assumption | refine Ext.push ?_ _ | ((refine Ext.set ?_ ?_ _); rotate_left; · (simp (maxSteps := 3000000) (maxDischargeDepth := 12) only [push_cast, appendX, Nat.reduceAdd, Nat.reduceEqDiff, Nat.reduceLT, Nat.reduceLeDiff, reduceIte, reduceCtorEq, dcg, dcw1, dcw2, dcw3])) | ((refine Ext.then1 (by assumption) ?_ ?_); rotate_left; · (intro p hp _; first | assumption | exact List.mem_cons_of_mem _ hp | (cases hp; done) | (simp at hp; subst hp; simp))))
def inI (r : List Int) (σ0 : Heap) (m : Nat) (ts : List DV) (σ : Heap) : Prop := ∃ i, m = r.length + 1 - i ∧ i ≤ r.length ∧ σ = σ0 ∧ TellsL ts (.imm (r.map eZ') :: .imm (r.map eZ') :: .any :: .any :: .any :: .sc (.int .i64 i) :: .any :: .any :: .any :: .any :: .any :: .any :: .any :: .any :: .any :: .any :: .any :: .any :: .any :: .any :: .any :: .any :: .any :: .any :: .any :: .any :: [])
theorem ints_ok (σ : Heap) (r : List Int) (hl : r.length ≤ 1000000) : ACalls Try.prog 15 [.imm (r.map eZ'), .imm (r.map eZ')] σ (fun y σ' => y = .sc (.bool true) ∧ σ' = σ) := by
  have dcml : (r.map eZ').length = r.length := by simp
  refine ACalls.code hT Try.func15 rfl ?_
  simp only [Try.ntmps15, List.length_cons, List.length_nil, Nat.reduceSub, Nat.reduceAdd, List.replicate, List.cons_append, List.nil_append]
  repeat (first | (with_reducible refine AW.seq ?_) | (with_reducible refine AW.block ?_) | (with_reducible refine AW.skip ?_) | (with_reducible refine AW.ret ?_) | (with_reducible refine AW.exit ?_) | (with_reducible refine AW.reg hT ?_) | ((with_reducible show AW _ (.region 6 _ _) _ _ _); (with_reducible refine AW.drawn (id := 6) hT [0,1,2,3,4,5,6,7,8] [[],[],[0,1],[0,1,2],[],[],[4,5],[4,5,6],[0,1,2,3,4,5,6,7]] mix (by kernel_rfl) ?_)) | ((with_reducible show DLeft _ _ _ _ (_ :: _) _ _ _ _); (with_reducible apply DLeft.step hT); (case hoi => ((simp only [List.getElem?_toArray,List.getElem?_cons_zero,List.getElem?_cons_succ]); with_reducible rfl)); (case hg => rfl); (case hk => rfl); (case hr => ((try simp (maxSteps := 3000000) (maxDischargeDepth := 12) only [push_cast,appendX,reduceIte,reduceCtorEq,Nat.reduceSub,Nat.reduceAdd,Nat.reduceMul,Nat.reduceLT,Nat.reduceLeDiff,Nat.reduceEqDiff,Nat.reduceBEq,Int.reduceToNat,Int.reduceLT,Int.reduceLE,Int.reduceEq,Int.reduceNeg,Try.results15,dcml]); with_reducible rfl))) | ((with_reducible refine AW.cond_true ?_ ?_); · rfl) | ((with_reducible refine AW.cond_false ?_ ?_); · rfl) | simp (maxSteps := 3000000) (maxDischargeDepth := 12) only [push_cast,appendX,reduceIte,reduceCtorEq,Nat.reduceSub,Nat.reduceAdd,Nat.reduceMul,Nat.reduceLT,Nat.reduceLeDiff,Nat.reduceEqDiff,Nat.reduceBEq,Int.reduceToNat,Int.reduceLT,Int.reduceLE,Int.reduceEq,Int.reduceNeg,Try.results15,dcml])
  refine AW.loop (inI r σ) (m := r.length + 1) ⟨0, rfl, Nat.zero_le _, rfl, by (simp only [push_cast, TellsL, tells_any, tells_refl])⟩ ?_
  rintro m ts σ3 ⟨i, rfl, hil, rfl, hts⟩
  refine AW.told hts ?_
  clear hts
  by_cases hi : i < r.length
  · have dci : decide ((i : Int) < (r.length : Int)) = true := decide_eq_true (by omega)
    have dci2 : ((i : Int) < (r.length : Int)) = True := by simp; omega
    have dci0 : ((0 : Int) ≤ (i : Int)) = True := by simp
    have dcel : (r.map eZ')[i]? = some [.sc (.int .i64 r[i])] := by rw [List.getElem?_map, List.getElem?_eq_getElem hi]; rfl
    have dcw : IntKind.i64.wrap ((i : Int) + 1) = (i : Int) + 1 := wrap_i64 (by omega) (by omega)
    have dcx : (r[i] != r[i]) = false := by simp
    repeat (first | (with_reducible refine AW.seq ?_) | (with_reducible refine AW.block ?_) | (with_reducible refine AW.skip ?_) | (with_reducible refine AW.ret ?_) | (with_reducible refine AW.exit ?_) | (with_reducible refine AW.reg hT ?_) | ((with_reducible show AW _ (.region 6 _ _) _ _ _); (with_reducible refine AW.drawn (id := 6) hT [0,1,2,3,4,5,6,7,8] [[],[],[0,1],[0,1,2],[],[],[4,5],[4,5,6],[0,1,2,3,4,5,6,7]] mix (by kernel_rfl) ?_)) | ((with_reducible show DLeft _ _ _ _ (_ :: _) _ _ _ _); (with_reducible apply DLeft.step hT); (case hoi => ((simp only [List.getElem?_toArray,List.getElem?_cons_zero,List.getElem?_cons_succ]); with_reducible rfl)); (case hg => rfl); (case hk => rfl); (case hr => ((try simp (maxSteps := 3000000) (maxDischargeDepth := 12) only [push_cast,appendX,reduceIte,reduceCtorEq,Nat.reduceSub,Nat.reduceAdd,Nat.reduceMul,Nat.reduceLT,Nat.reduceLeDiff,Nat.reduceEqDiff,Nat.reduceBEq,Int.reduceToNat,Int.reduceLT,Int.reduceLE,Int.reduceEq,Int.reduceNeg,Try.results15,dcml,dci,dci2,dci0,dcel,dcw,dcx]); with_reducible rfl))) | ((with_reducible refine AW.cond_true ?_ ?_); · rfl) | ((with_reducible refine AW.cond_false ?_ ?_); · rfl) | simp (maxSteps := 3000000) (maxDischargeDepth := 12) only [push_cast,appendX,reduceIte,reduceCtorEq,Nat.reduceSub,Nat.reduceAdd,Nat.reduceMul,Nat.reduceLT,Nat.reduceLeDiff,Nat.reduceEqDiff,Nat.reduceBEq,Int.reduceToNat,Int.reduceLT,Int.reduceLE,Int.reduceEq,Int.reduceNeg,Try.results15,dcml,dci,dci2,dci0,dcel,dcw,dcx])
    exact ⟨r.length + 1 - (i + 1), by omega, i + 1, rfl, hi, rfl, by (simp only [push_cast, TellsL, tells_any, tells_refl])⟩
  · have dci : decide ((i : Int) < (r.length : Int)) = false := decide_eq_false (by omega)
    repeat (first | (with_reducible refine AW.seq ?_) | (with_reducible refine AW.block ?_) | (with_reducible refine AW.skip ?_) | (with_reducible refine AW.ret ?_) | (with_reducible refine AW.exit ?_) | (with_reducible refine AW.reg hT ?_) | ((with_reducible show AW _ (.region 6 _ _) _ _ _); (with_reducible refine AW.drawn (id := 6) hT [0,1,2,3,4,5,6,7,8] [[],[],[0,1],[0,1,2],[],[],[4,5],[4,5,6],[0,1,2,3,4,5,6,7]] mix (by kernel_rfl) ?_)) | ((with_reducible show DLeft _ _ _ _ (_ :: _) _ _ _ _); (with_reducible apply DLeft.step hT); (case hoi => ((simp only [List.getElem?_toArray,List.getElem?_cons_zero,List.getElem?_cons_succ]); with_reducible rfl)); (case hg => rfl); (case hk => rfl); (case hr => ((try simp (maxSteps := 3000000) (maxDischargeDepth := 12) only [push_cast,appendX,reduceIte,reduceCtorEq,Nat.reduceSub,Nat.reduceAdd,Nat.reduceMul,Nat.reduceLT,Nat.reduceLeDiff,Nat.reduceEqDiff,Nat.reduceBEq,Int.reduceToNat,Int.reduceLT,Int.reduceLE,Int.reduceEq,Int.reduceNeg,Try.results15,dcml,dci]); with_reducible rfl))) | ((with_reducible refine AW.cond_true ?_ ?_); · rfl) | ((with_reducible refine AW.cond_false ?_ ?_); · rfl) | simp (maxSteps := 3000000) (maxDischargeDepth := 12) only [push_cast,appendX,reduceIte,reduceCtorEq,Nat.reduceSub,Nat.reduceAdd,Nat.reduceMul,Nat.reduceLT,Nat.reduceLeDiff,Nat.reduceEqDiff,Nat.reduceBEq,Int.reduceToNat,Int.reduceLT,Int.reduceLE,Int.reduceEq,Int.reduceNeg,Try.results15,dcml,dci])
end Go.Proofs.Ythdamnemoaaigaa.Cm
