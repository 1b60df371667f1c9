/- The document's pool. -/
import Derived.Test.YthdamnemoaaigaaPool3
namespace Go.Proofs.Ythdamnemoaaigaa.Cm
open Go.RowKit
set_option linter.unusedVariables false
set_option linter.unusedSimpArgs false
set_option maxRecDepth 20000
set_option maxHeartbeats 8000000
def eBo (b : Bool) : List DV := [.sc (.bool b)]
def giv (lo : Int) (n : Nat) : List Int := (List.range n).map (fun i : Nat => lo + (i : Int))
theorem giv_len (lo : Int) (n : Nat) : (giv lo n).length = n := by simp [giv]
theorem giv_get {lo : Int} {n i : Nat} (h : i < n) : (giv lo n)[i]? = some (lo + (i : Int)) := by simp [giv, h]
theorem giv_succ (lo : Int) (n : Nat) : giv lo (n + 1) = giv lo n ++ [lo + (n : Int)] := by simp [giv, List.range_succ]
theorem giv_take (lo : Int) {n i : Nat} (h : i ≤ n) : (giv lo n).take i = giv lo i := by
  simp [giv, ← List.map_take, List.take_range, Nat.min_eq_left h]
/-- The document's pool as told cells. -/
def mPc (lo hi : Int) (is : List Bool) : List DV := [.sc (.int .i64 lo), .sc (.int .i64 hi), .imm ((giv lo is.length).map eZ'), .imm (is.map eBo)]
def drp (lo l : Int) (is : List Bool) : List Bool := is.mapIdx (fun i b => if lo + (i : Int) = l then false else b)
theorem drp_len (lo l : Int) (is : List Bool) : (drp lo l is).length = is.length := by simp [drp]
theorem drp_get (lo l : Int) (is : List Bool) (i : Nat) (h : i < is.length) : (drp lo l is)[i]? = some (if lo + (i : Int) = l then false else is[i]) := by simp [drp, h]
theorem drp_take (lo l : Int) (is : List Bool) (i : Nat) (h : i < is.length) : (drp lo l is).take (i + 1) = (drp lo l is).take i ++ [if lo + (i : Int) = l then false else is[i]] := by
  rw [List.take_add_one, drp_get lo l is i h]; rfl
def outN (lo : Int) (is : List Bool) : Nat → List Int
  | 0 => []
  | i + 1 => outN lo is i ++ (if is[i]? = some true then [lo + (i : Int)] else [])
theorem outN_len (lo : Int) (is : List Bool) : ∀ i, (outN lo is i).length ≤ i
  | 0 => by simp [outN]
  | i + 1 => by
    have := outN_len lo is i
    rw [outN, List.length_append]
    split <;> simp <;> omega
theorem hold_apart {σ : Heap} {d1 d2 : DV} {e1 e2 : TypeId} {els1 els2 : List (List DV)} (h1 : Hold σ d1 e1 els1) (h2 : Hold σ d2 e2 els2) (hne : e2 ≠ e1) : ∀ p ∈ tOf d2, p ∉ tOf d1 := by
  intro p hp
  rcases h2 with ⟨rfl, _⟩ | ⟨t, full, rfl, hg, _⟩
  · simp [tOf] at hp
  · simp [tOf] at hp
    subst hp
    exact h1.ne hg hne
def rtI (lo : Int) (is : List Bool) (q r : Nat) (B : Heap) (m : Nat) (ts : List DV) (σ : Heap) : Prop := ∃ (i : Nat) (d e : DV), m = is.length + 1 - i ∧ i ≤ is.length ∧ Hold σ d 3 ((giv lo i).map eZ') ∧ Hold σ e 4 ((is.take i).map eBo) ∧ (∀ x ∈ tOf d, B.n ≤ x) ∧ (∀ x ∈ tOf e, B.n ≤ x) ∧ Ext [] B σ ∧ TellsL ts (.any :: .ptr q 0 0 1 :: .ptr r 0 0 1 :: .any :: .any :: .sc (.int .i64 (lo + (is.length : Int))) :: d :: e :: .sc (.int .i64 i) :: .any :: .any :: .any :: .any :: .any :: .any :: .any :: .any :: .any :: .any :: .any :: .any :: .any :: .any :: .any :: .any :: .any :: .any :: .any :: .any :: .any :: .any :: .any :: .any :: .any :: .any :: .any :: .any :: .any :: .any :: .any :: .any :: .any :: .any :: .any :: .any :: .any :: .any :: .any :: .any :: .any :: .any :: .any :: .any :: .any :: .any :: .any :: [])
theorem rtake_ok (σ : Heap) (lo hi : Int) (is : List Bool) (h0 : 0 ≤ lo) (h1 : lo ≤ 2000000) (hl : is.length ≤ 1000) : ACalls Try.prog 14 [.agg (mPc lo hi is)] σ (fun y σ' => ((lo + (is.length : Int) ≤ hi ∧ y = .tup [.agg (mPc lo hi (is ++ [true])), .sc (.int .i64 (lo + (is.length : Int))), .sc (.int .i64 0)]) ∨ (hi < lo + (is.length : Int) ∧ y = .tup [.agg (mPc lo hi is), .sc (.int .i64 0), .sc (.int .i64 7)])) ∧ Ext [] σ σ') := by
  have dcg : ((giv lo is.length).map eZ').length = is.length := by rw [List.length_map, giv_len]
  have dcb : (is.map eBo).length = is.length := by simp
  have dcw : IntKind.i64.wrap (lo + (is.length : Int)) = lo + (is.length : Int) := wrap_i64 (by omega) (by omega)
  unfold mPc
  refine ACalls.code hT Try.func14 rfl ?_
  simp only [Try.ntmps14, List.length_cons, List.length_nil, Nat.reduceSub, Nat.reduceAdd, List.replicate, List.cons_append, List.nil_append]
  by_cases hle : lo + (is.length : Int) ≤ hi
  · have dcl : decide (hi < lo + (is.length : Int)) = false := decide_eq_false (by omega)
    repeat (first | (with_reducible refine AW.seq ?_) | (with_reducible refine AW.block ?_) | (with_reducible refine AW.skip ?_) | (with_reducible refine AW.ret ?_) | (with_reducible refine AW.exit ?_) | (with_reducible refine AW.reg hT ?_) | ((with_reducible refine AW.cond_true ?_ ?_); · rfl) | ((with_reducible refine AW.cond_false ?_ ?_); · rfl) | simp (maxSteps := 3000000) (maxDischargeDepth := 12) only [push_cast,appendX,reduceIte,reduceCtorEq,Nat.reduceSub,Nat.reduceAdd,Nat.reduceMul,Nat.reduceLT,Nat.reduceLeDiff,Nat.reduceEqDiff,Nat.reduceBEq,Int.reduceToNat,Int.reduceLT,Int.reduceLE,Int.reduceEq,Int.reduceNeg,Try.results14,dcg,dcb,dcw,dcl])
    have hBB : ∃ B, B = (σ.push ⟨[[.sc (.int .i64 lo), .sc (.int .i64 hi), .imm ((giv lo is.length).map eZ'), .imm (is.map eBo)]], 30, true⟩).push ⟨[[.sc (.int .i64 0), .sc (.int .i64 0), .sc (.slice none 0 0), .sc (.slice none 0 0)]], 30, true⟩ := ⟨_, rfl⟩
    obtain ⟨B, hB⟩ := hBB
    have hqB : B.get σ.n = some ⟨[[.sc (.int .i64 lo), .sc (.int .i64 hi), .imm ((giv lo is.length).map eZ'), .imm (is.map eBo)]], 30, true⟩ := by rw [hB]; simp (maxSteps := 3000000) (maxDischargeDepth := 12) only [push_cast, appendX, Nat.reduceAdd, Nat.reduceEqDiff, Nat.reduceLT, Nat.reduceLeDiff, reduceIte, reduceCtorEq, dcg, dcb, dcw, dcl]
    have hrB : B.get (σ.n + 1) = some ⟨[[.sc (.int .i64 0), .sc (.int .i64 0), .sc (.slice none 0 0), .sc (.slice none 0 0)]], 30, true⟩ := by rw [hB]; simp (maxSteps := 3000000) (maxDischargeDepth := 12) only [push_cast, appendX, Nat.reduceAdd, Nat.reduceEqDiff, Nat.reduceLT, Nat.reduceLeDiff, reduceIte, reduceCtorEq, dcg, dcb, dcw, dcl]
    have hxB : Ext [] σ B := by rw [hB]; exact ((Ext.refl _ _).push _).push _
    rw [← hB]
    have hqr : σ.n ≠ σ.n + 1 := by omega
    have hqn : σ.n ≤ σ.n := Nat.le_refl _
    refine AW.loop (rtI lo is σ.n (σ.n + 1) B) (m := is.length + 1) ⟨0, .sc (.slice none 0 0), .sc (.slice none 0 0), rfl, Nat.zero_le _, Hold.nil _ _, Hold.nil _ _, by simp [tOf], by simp [tOf], Ext.refl _ _, by (simp only [push_cast, TellsL, tells_any, tells_refl])⟩ ?_
    generalize hr : σ.n + 1 = r at hrB hqr ⊢
    generalize hq : σ.n = q at hqB hqr hqn ⊢
    clear hB
    rintro m ts σ3 ⟨i, d, e, rfl, hil, hd, he, hnd, hne, hx3, hts⟩
    refine AW.told hts ?_
    clear hts
    have gtq := hx3.get hqB (by simp)
    have gtr := hx3.get hrB (by simp)
    have hap1 := hold_apart hd he (by decide)
    have hap2 := hold_apart he hd (by decide)
    have hld : ((giv lo i).map eZ').length = i := by rw [List.length_map, giv_len]
    have hle2 : ((is.take i).map eBo).length = i := by rw [List.length_map, List.length_take]; omega
    by_cases hi_ : i < is.length
    · have dci : decide ((i : Int) < (is.length : Int)) = true := decide_eq_true (by omega)
      have dci2 : ((i : Int) < (is.length : Int)) = True := by simp; omega
      have dci0 : ((0 : Int) ≤ (i : Int)) = True := by simp
      have dcwi : IntKind.i64.wrap ((i : Int) + 1) = (i : Int) + 1 := wrap_i64 (by omega) (by omega)
      have dceg : ((giv lo is.length).map eZ')[i]? = some [.sc (.int .i64 (lo + (i : Int)))] := by rw [List.getElem?_map, giv_get hi_]; rfl
      have dceb : (is.map eBo)[i]? = some [.sc (.bool is[i])] := by rw [List.getElem?_map, List.getElem?_eq_getElem hi_]; rfl
      obtain ⟨d5, σ5, dnapp, hh5, hnew5, hx5, hx6⟩ := Hold.app1x (ty := 27) (x := [.sc (.int .i64 (lo + (i : Int)))]) (σ0 := B) (σ := σ3) hd hnd hx3 rfl rfl (by decide) rfl (by rw [hld]; simp; omega)
      have he5 : Hold σ5 e 4 ((is.take i).map eBo) := (he.frame (X := []) ((Ext.refl _ _).push _) (by simp)).frame hx6 hap1
      have hap3 := hold_apart he5 hh5 (by decide)
      obtain ⟨e7, σ7, dnapp7, hh7, hnew7, hx7, hx8⟩ := Hold.app1x (ty := 28) (x := [.sc (.bool is[i])]) (σ0 := B) (σ := σ5) he5 hne hx5 rfl rfl (by decide) rfl (by rw [hle2]; simp; omega)
      have hd7 : Hold σ7 d5 3 ((giv lo i).map eZ' ++ [[.sc (.int .i64 (lo + (i : Int)))]]) := (hh5.frame (X := []) ((Ext.refl _ _).push _) (by simp)).frame hx8 hap3
      have hq5 := hx5.get hqB (by simp)
      have gtq5 := hq5
      repeat (first | (with_reducible refine AW.seq ?_) | (with_reducible refine AW.block ?_) | (with_reducible refine AW.skip ?_) | (with_reducible refine AW.ret ?_) | (with_reducible refine AW.exit ?_) | (with_reducible refine AW.reg hT ?_) | ((with_reducible refine AW.cond_true ?_ ?_); · rfl) | ((with_reducible refine AW.cond_false ?_ ?_); · rfl) | simp (maxSteps := 3000000) (maxDischargeDepth := 12) only [push_cast,appendX,reduceIte,reduceCtorEq,Nat.reduceSub,Nat.reduceAdd,Nat.reduceMul,Nat.reduceLT,Nat.reduceLeDiff,Nat.reduceEqDiff,Nat.reduceBEq,Int.reduceToNat,Int.reduceLT,Int.reduceLE,Int.reduceEq,Int.reduceNeg,Try.results14,dcg,dcb,dcw,dcl,gtq,Heap.lt gtq,gtr,Heap.lt gtr,dci,dci2,dci0,dcwi,dceg,dceb,↓dnapp,↓dnapp7,gtq5,Heap.lt gtq5])
      refine ⟨is.length + 1 - (i + 1), by omega, i + 1, d5, e7, rfl, by omega, by rw [giv_succ, List.map_append]; exact hd7, by rw [List.take_add_one, List.getElem?_eq_getElem hi_, List.map_append]; exact hh7, hnew5, hnew7, hx7, by (simp only [push_cast, TellsL, tells_any, tells_refl])⟩
    · have dci : decide ((i : Int) < (is.length : Int)) = false := decide_eq_false (by omega)
      have hie : i = is.length := by omega
      subst hie
      obtain ⟨d5, σ5, dnapp, hh5, hnew5, hx5, hx6⟩ := Hold.app1x (ty := 27) (x := [.sc (.int .i64 (lo + (is.length : Int)))]) (σ0 := B) (σ := σ3) hd hnd hx3 rfl rfl (by decide) rfl (by rw [hld]; simp; omega)
      have he5 : Hold σ5 e 4 ((is.take is.length).map eBo) := (he.frame (X := []) ((Ext.refl _ _).push _) (by simp)).frame hx6 hap1
      have hap3 := hold_apart he5 hh5 (by decide)
      obtain ⟨e7, σ7, dnapp7, hh7, hnew7, hx7, hx8⟩ := Hold.app1x (ty := 28) (x := [.sc (.bool true)]) (σ0 := B) (σ := σ5) he5 hne hx5 rfl rfl (by decide) rfl (by rw [hle2]; simp; omega)
      have hd7 : Hold σ7 d5 3 ((giv lo is.length).map eZ' ++ [[.sc (.int .i64 (lo + (is.length : Int)))]]) := (hh5.frame (X := []) ((Ext.refl _ _).push _) (by simp)).frame hx8 hap3
      have hap4 := hold_apart hd7 hh7 (by decide)
      repeat ((fail_if_success (with_reducible refine AW.at1 (id := 13) ?_)); (fail_if_success (with_reducible refine AW.at2 (id := 13) ?_)); first | (with_reducible refine AW.seq ?_) | (with_reducible refine AW.block ?_) | (with_reducible refine AW.skip ?_) | (with_reducible refine AW.ret ?_) | (with_reducible refine AW.exit ?_) | (with_reducible refine AW.reg hT ?_) | ((with_reducible refine AW.cond_true ?_ ?_); · rfl) | ((with_reducible refine AW.cond_false ?_ ?_); · rfl) | simp (maxSteps := 3000000) (maxDischargeDepth := 12) only [push_cast,appendX,reduceIte,reduceCtorEq,Nat.reduceSub,Nat.reduceAdd,Nat.reduceMul,Nat.reduceLT,Nat.reduceLeDiff,Nat.reduceEqDiff,Nat.reduceBEq,Int.reduceToNat,Int.reduceLT,Int.reduceLE,Int.reduceEq,Int.reduceNeg,Try.results14,dcg,dcb,dcw,dcl,gtq,Heap.lt gtq,gtr,Heap.lt gtr,dci,↓dnapp,↓dnapp7])
      refine AW.holdSlot (j := 6) hd7 rfl (fun σ8 hx9 => ?_)
      have he8 := hh7.frame hx9 hap4
      refine AW.holdSlot (j := 7) he8 rfl (fun σ9 hx10 => ?_)
      have hx11 : Ext [] B σ9 := (hx7.then hx9 (fun p hp hlp => absurd (hnew5 p hp) (by omega))).then hx10 (fun p hp hlp => absurd (hnew7 p hp) (by omega))
      have gtq9 := hx11.get hqB (by simp)
      have gtr9 := hx11.get hrB (by simp)
      have dcqr : (q = r) = False := by simp [hqr]
      have dcrq : (r = q) = False := by simp [Ne.symm hqr]
      repeat (first | (with_reducible refine AW.seq ?_) | (with_reducible refine AW.block ?_) | (with_reducible refine AW.skip ?_) | (with_reducible refine AW.ret ?_) | (with_reducible refine AW.exit ?_) | (with_reducible refine AW.reg hT ?_) | ((with_reducible refine AW.cond_true ?_ ?_); · rfl) | ((with_reducible refine AW.cond_false ?_ ?_); · rfl) | simp (maxSteps := 3000000) (maxDischargeDepth := 12) only [push_cast,appendX,reduceIte,reduceCtorEq,Nat.reduceSub,Nat.reduceAdd,Nat.reduceMul,Nat.reduceLT,Nat.reduceLeDiff,Nat.reduceEqDiff,Nat.reduceBEq,Int.reduceToNat,Int.reduceLT,Int.reduceLE,Int.reduceEq,Int.reduceNeg,Try.results14,dcg,dcb,dcw,dcl,gtq,Heap.lt gtq,gtr,Heap.lt gtr,dci,↓dnapp,↓dnapp7,gtq9,Heap.lt gtq9,gtr9,Heap.lt gtr9,dcqr,dcrq])
      refine ⟨?_, ?_⟩
      · refine .inl ⟨hle, ?_⟩
        simp [giv_succ, eZ', eBo]
      · have hx12 : Ext [] σ σ9 := hxB.trans hx11
        exact Ext.set (Ext.set (Ext.set hx12 (.inl (by omega)) _) (.inl (by omega)) _) (.inl (by omega)) _
  · have dcl : decide (hi < lo + (is.length : Int)) = true := decide_eq_true (by omega)
    repeat (first | (with_reducible refine AW.seq ?_) | (with_reducible refine AW.block ?_) | (with_reducible refine AW.skip ?_) | (with_reducible refine AW.ret ?_) | (with_reducible refine AW.exit ?_) | (with_reducible refine AW.reg hT ?_) | ((with_reducible refine AW.cond_true ?_ ?_); · rfl) | ((with_reducible refine AW.cond_false ?_ ?_); · rfl) | simp (maxSteps := 3000000) (maxDischargeDepth := 12) only [push_cast,appendX,reduceIte,reduceCtorEq,Nat.reduceSub,Nat.reduceAdd,Nat.reduceMul,Nat.reduceLT,Nat.reduceLeDiff,Nat.reduceEqDiff,Nat.reduceBEq,Int.reduceToNat,Int.reduceLT,Int.reduceLE,Int.reduceEq,Int.reduceNeg,Try.results14,dcg,dcb,dcw,dcl])
    exact ⟨.inr (by omega), by repeat (first | exact Ext.refl _ _ | assumption | refine Ext.push ?_ _ | ((refine Ext.set ?_ ?_ _); rotate_left; · (simp (maxSteps := 3000000) (maxDischargeDepth := 12) only [push_cast, appendX, Nat.reduceAdd, Nat.reduceEqDiff, Nat.reduceLT, Nat.reduceLeDiff, reduceIte, reduceCtorEq, dcg, dcb, dcw, dcl])) | ((refine Ext.then1 (by assumption) ?_ ?_); rotate_left; · (intro p hp _; first | assumption | exact List.mem_cons_of_mem _ hp | (cases hp; done) | (simp at hp; subst hp; simp))))⟩
end Go.Proofs.Ythdamnemoaaigaa.Cm
