/- Package octet's reader, and the document's Digits and Number. -/
import Derived.Test.YtkcccomdamdocaaCOct
namespace Go.Proofs.Ytkcccomdamdocaa.Cm
open Go.RowKit
set_option linter.unusedVariables false
set_option linter.unusedSimpArgs false
set_option maxRecDepth 20000
set_option maxHeartbeats 8000000
theorem bytes_all (l : List Int) : ((bytesD l).all fun el => el.length == 1) = true := by rw [List.all_eq_true]; intro x hx; simp [bytesD_size l x hx]
/-- A reader that has still l, and the error e. -/
def ROb (l : List Int) (e : Int) : AObj := ⟨[[.sc (.bool true), .imm (bytesD l), .sc (.int .i64 e)]], 94, true⟩
theorem rdnew_ok (σ : Heap) (d : DV) (l : List Int) (hs : Src σ d (bytesD l)) (hb : l.length ≤ 1000000) :
    ACalls Try.prog 39 [d] σ (fun x σ' => ∃ p, x = .ptr p 0 0 1 ∧ σ.n ≤ p ∧ σ'.get p = some (ROb l 0) ∧ Ext [] σ σ') := by
  refine ACalls.holdCell ?_
  obtain ⟨d1, σ1, dnapp, hh, xt1, hnew⟩ := (Hold.nil σ 5).append0 (T := T) (ty := 52) (x := d) (xs := bytesD l) rfl rfl (by decide) hs.now (bytes_all l) (by rw [bytesD_length]; simp; omega)
  have dncl := hh.cells
  have dnlf := hh.leaf
  have hl := hh.lt
  refine ACalls.code hT Try.func39 rfl ?_
  simp only [Try.ntmps39, List.length_cons, List.length_nil, Nat.reduceSub, Nat.reduceAdd, List.replicate, List.cons_append, List.nil_append]
  repeat (first | (with_reducible refine AW.seq ?_) | (with_reducible refine AW.block ?_) | (with_reducible refine AW.skip ?_) | (with_reducible refine AW.ret ?_) | (with_reducible refine AW.exit ?_) | (with_reducible refine AW.reg hT ?_) | ((with_reducible refine AW.cond_true ?_ ?_); · rfl) | ((with_reducible refine AW.cond_false ?_ ?_); · rfl) | simp (maxSteps := 3000000) (maxDischargeDepth := 12) only [push_cast,appendX,reduceIte,reduceCtorEq,Nat.reduceSub,Nat.reduceAdd,Nat.reduceMul,Nat.reduceLT,Nat.reduceLeDiff,Nat.reduceEqDiff,Nat.reduceBEq,Int.reduceToNat,Int.reduceLT,Int.reduceLE,Int.reduceEq,Int.reduceNeg,Try.results39,↓dnapp,xt1.2,xt1.ltT,xt1.leT,↓dncl,↓dnlf])
  refine ⟨σ1.n, [.sc (.bool true)], d1, [.sc (.int .i64 0)], 94, true, bytesD l, 5, (by simpa using hh.frame (X := []) ((Ext.refl _ _).push _) (by simp)), by simp (maxSteps := 3000000) (maxDischargeDepth := 12) only [push_cast, appendX, Nat.reduceAdd, Nat.reduceEqDiff, Nat.reduceLT, Nat.reduceLeDiff, reduceIte, reduceCtorEq, List.cons_append, List.nil_append, ↓dnapp, xt1.2, xt1.ltT, xt1.leT, ↓dncl, ↓dnlf], fun hm => by have := hl _ hm; omega, fun σ'' hx hg => ⟨σ1.n, rfl, xt1.1, hg, ?_⟩⟩
  have xt2 : Ext [] σ σ1 := xt1
  refine (xt2.push _).then hx (fun q hq hlq => ?_)
  rcases List.mem_cons.1 hq with rfl | hq
  · have := xt1.1; omega
  · have := hnew q hlq hq; simp [tOf] at this
theorem err_ok (σ : Heap) {p : Nat} {l : List Int} {e : Int} (gtp : σ.get p = some (ROb l e)) : ACalls Try.prog 46 [.ptr p 0 0 1] σ (fun x σ' => x = .sc (.int .i64 e) ∧ σ' = σ) := by
  refine ACalls.code hT Try.func46 rfl ?_
  simp only [Try.ntmps46, List.length_cons, List.length_nil, Nat.reduceSub, Nat.reduceAdd, List.replicate, List.cons_append, List.nil_append]
  repeat (first | (with_reducible refine AW.seq ?_) | (with_reducible refine AW.block ?_) | (with_reducible refine AW.skip ?_) | (with_reducible refine AW.ret ?_) | (with_reducible refine AW.exit ?_) | (with_reducible refine AW.reg hT ?_) | ((with_reducible refine AW.cond_true ?_ ?_); · rfl) | ((with_reducible refine AW.cond_false ?_ ?_); · rfl) | simp (maxSteps := 3000000) (maxDischargeDepth := 12) only [push_cast,appendX,reduceIte,reduceCtorEq,Nat.reduceSub,Nat.reduceAdd,Nat.reduceMul,Nat.reduceLT,Nat.reduceLeDiff,Nat.reduceEqDiff,Nat.reduceBEq,Int.reduceToNat,Int.reduceLT,Int.reduceLE,Int.reduceEq,Int.reduceNeg,Try.results46,ROb,gtp,Heap.lt gtp])
theorem left_ok (σ : Heap) {p : Nat} {l : List Int} {e : Int} (gtp : σ.get p = some (ROb l e)) : ACalls Try.prog 40 [.ptr p 0 0 1] σ (fun x σ' => x = .sc (.int .i64 l.length) ∧ σ' = σ) := by
  have dc8 : (bytesD l).length = l.length := bytesD_length _
  refine ACalls.code hT Try.func40 rfl ?_
  simp only [Try.ntmps40, List.length_cons, List.length_nil, Nat.reduceSub, Nat.reduceAdd, List.replicate, List.cons_append, List.nil_append]
  repeat (first | (with_reducible refine AW.seq ?_) | (with_reducible refine AW.block ?_) | (with_reducible refine AW.skip ?_) | (with_reducible refine AW.ret ?_) | (with_reducible refine AW.exit ?_) | (with_reducible refine AW.reg hT ?_) | ((with_reducible refine AW.cond_true ?_ ?_); · rfl) | ((with_reducible refine AW.cond_false ?_ ?_); · rfl) | simp (maxSteps := 3000000) (maxDischargeDepth := 12) only [push_cast,appendX,reduceIte,reduceCtorEq,Nat.reduceSub,Nat.reduceAdd,Nat.reduceMul,Nat.reduceLT,Nat.reduceLeDiff,Nat.reduceEqDiff,Nat.reduceBEq,Int.reduceToNat,Int.reduceLT,Int.reduceLE,Int.reduceEq,Int.reduceNeg,Try.results40,ROb,gtp,Heap.lt gtp,dc8])
/-- What a reader has behind a take, its error, and what it answers. -/
def tk (l : List Int) (e n : Int) (ok : Bool) : List Int × Int × List Int := if e ≠ 0 then (l, e, []) else if ok = false then (l, 2, []) else if (l.length : Int) < n then (l, 4, []) else (l.drop n.toNat, 0, l.take n.toNat)
theorem take_ok (σ : Heap) {p : Nat} {l : List Int} {e : Int} (n : Int) (ok : Bool) (gtp : σ.get p = some (ROb l e)) (hn : ok = true → 0 ≤ n) :
    ACalls Try.prog 48 [.ptr p 0 0 1, .sc (.int .i64 n), .sc (.bool ok)] σ (fun x σ' => x = .imm (bytesD (tk l e n ok).2.2) ∧ σ'.get p = some (ROb (tk l e n ok).1 (tk l e n ok).2.1) ∧ Ext [p] σ σ') := by
  have dc8 : (bytesD l).length = l.length := bytesD_length _
  have dc9 := bytes_all l
  have hlt := Heap.lt gtp
  refine ACalls.tells ?_
  refine ACalls.code hT Try.func48 rfl ?_
  simp only [Try.ntmps48, List.length_cons, List.length_nil, Nat.reduceSub, Nat.reduceAdd, List.replicate, List.cons_append, List.nil_append]
  repeat (first | (with_reducible refine AW.seq ?_) | (with_reducible refine AW.block ?_) | (with_reducible refine AW.skip ?_) | (with_reducible refine AW.ret ?_) | (with_reducible refine AW.exit ?_) | (with_reducible refine AW.reg hT ?_) | ((with_reducible refine AW.cond_true ?_ ?_); · rfl) | ((with_reducible refine AW.cond_false ?_ ?_); · rfl) | simp (maxSteps := 3000000) (maxDischargeDepth := 12) only [push_cast,appendX,reduceIte,reduceCtorEq,Nat.reduceSub,Nat.reduceAdd,Nat.reduceMul,Nat.reduceLT,Nat.reduceLeDiff,Nat.reduceEqDiff,Nat.reduceBEq,Int.reduceToNat,Int.reduceLT,Int.reduceLE,Int.reduceEq,Int.reduceNeg,Try.results48,gtp,Heap.lt gtp,dc8,dc9])
  refine AOpsL.call (first := []) (cap := []) hT rfl rfl rfl fn46 rfl (ACalls.mono (err_ok _ gtp) ?_)
  rintro x σ' ⟨rfl, rfl⟩
  by_cases he : e = 0
  · have dce : (e == 0) = true := by simpa using he
    cases ok with
    | false =>
      repeat (first | (with_reducible refine AW.seq ?_) | (with_reducible refine AW.block ?_) | (with_reducible refine AW.skip ?_) | (with_reducible refine AW.ret ?_) | (with_reducible refine AW.exit ?_) | (with_reducible refine AW.reg hT ?_) | ((with_reducible refine AW.cond_true ?_ ?_); · rfl) | ((with_reducible refine AW.cond_false ?_ ?_); · rfl) | simp (maxSteps := 3000000) (maxDischargeDepth := 12) only [push_cast,appendX,reduceIte,reduceCtorEq,Nat.reduceSub,Nat.reduceAdd,Nat.reduceMul,Nat.reduceLT,Nat.reduceLeDiff,Nat.reduceEqDiff,Nat.reduceBEq,Int.reduceToNat,Int.reduceLT,Int.reduceLE,Int.reduceEq,Int.reduceNeg,Try.results48,ROb,gtp,Heap.lt gtp,dc8,dc9,dce])
      refine ⟨.imm [], Tells.nil, by simp [tk, he, bytesD], ?_, ?_⟩
      · simp (maxSteps := 3000000) (maxDischargeDepth := 12) only [push_cast, appendX, Nat.reduceAdd, Nat.reduceEqDiff, Nat.reduceLT, Nat.reduceLeDiff, reduceIte, reduceCtorEq, ROb, tk, gtp, Heap.lt gtp, dc8, dc9, dce]
        simp [tk, he, ROb]
      · repeat (first | exact Ext.refl _ _ | assumption | refine Ext.push ?_ _ | ((refine Ext.set ?_ ?_ _); rotate_left; · (simp (maxSteps := 3000000) (maxDischargeDepth := 12) only [push_cast, appendX, Nat.reduceAdd, Nat.reduceEqDiff, Nat.reduceLT, Nat.reduceLeDiff, reduceIte, reduceCtorEq, gtp, Heap.lt gtp, dc8, dc9, dce])) | ((refine Ext.then1 (by assumption) ?_ ?_); rotate_left; · (intro p hp _; first | assumption | exact List.mem_cons_of_mem _ hp | (cases hp; done) | (simp at hp; subst hp; simp))))
    | true =>
      obtain ⟨k, rfl⟩ := Int.eq_ofNat_of_zero_le (hn rfl)
      by_cases hl : l.length < k
      · have dcl : decide ((l.length : Int) < (k : Int)) = true := by simp; omega
        repeat (first | (with_reducible refine AW.seq ?_) | (with_reducible refine AW.block ?_) | (with_reducible refine AW.skip ?_) | (with_reducible refine AW.ret ?_) | (with_reducible refine AW.exit ?_) | (with_reducible refine AW.reg hT ?_) | ((with_reducible refine AW.cond_true ?_ ?_); · rfl) | ((with_reducible refine AW.cond_false ?_ ?_); · rfl) | simp (maxSteps := 3000000) (maxDischargeDepth := 12) only [push_cast,appendX,reduceIte,reduceCtorEq,Nat.reduceSub,Nat.reduceAdd,Nat.reduceMul,Nat.reduceLT,Nat.reduceLeDiff,Nat.reduceEqDiff,Nat.reduceBEq,Int.reduceToNat,Int.reduceLT,Int.reduceLE,Int.reduceEq,Int.reduceNeg,Try.results48,ROb,gtp,Heap.lt gtp,dc8,dc9,dce,dcl])
        refine ⟨.imm [], Tells.nil, by simp [tk, he, bytesD, hl], ?_, ?_⟩
        · simp (maxSteps := 3000000) (maxDischargeDepth := 12) only [push_cast, appendX, Nat.reduceAdd, Nat.reduceEqDiff, Nat.reduceLT, Nat.reduceLeDiff, reduceIte, reduceCtorEq, ROb, tk, gtp, Heap.lt gtp, dc8, dc9, dce, dcl]
          simp [tk, he, ROb, hl]
        · repeat (first | exact Ext.refl _ _ | assumption | refine Ext.push ?_ _ | ((refine Ext.set ?_ ?_ _); rotate_left; · (simp (maxSteps := 3000000) (maxDischargeDepth := 12) only [push_cast, appendX, Nat.reduceAdd, Nat.reduceEqDiff, Nat.reduceLT, Nat.reduceLeDiff, reduceIte, reduceCtorEq, gtp, Heap.lt gtp, dc8, dc9, dce, dcl])) | ((refine Ext.then1 (by assumption) ?_ ?_); rotate_left; · (intro p hp _; first | assumption | exact List.mem_cons_of_mem _ hp | (cases hp; done) | (simp at hp; subst hp; simp))))
      · have dcl : decide ((l.length : Int) < (k : Int)) = false := by simp; omega
        have dc1 : ((k : Int) ≤ (l.length : Int)) = True := by simp; omega
        have dc2 : ((0 : Int) ≤ (k : Int)) = True := by simp
        have htk : (l.take k).length = k := by simp; omega
        repeat (first | (with_reducible refine AW.seq ?_) | (with_reducible refine AW.block ?_) | (with_reducible refine AW.skip ?_) | (with_reducible refine AW.ret ?_) | (with_reducible refine AW.exit ?_) | (with_reducible refine AW.reg hT ?_) | ((with_reducible refine AW.cond_true ?_ ?_); · rfl) | ((with_reducible refine AW.cond_false ?_ ?_); · rfl) | simp (maxSteps := 3000000) (maxDischargeDepth := 12) only [push_cast,appendX,reduceIte,reduceCtorEq,Nat.reduceSub,Nat.reduceAdd,Nat.reduceMul,Nat.reduceLT,Nat.reduceLeDiff,Nat.reduceEqDiff,Nat.reduceBEq,Int.reduceToNat,Int.reduceLT,Int.reduceLE,Int.reduceEq,Int.reduceNeg,Try.results48,ROb,gtp,Heap.lt gtp,dc8,dc9,dce,dcl,dc1,dc2])
        refine ⟨_, Tells.refl _, by simp [tk, he, hl, bytesD_take], ?_, ?_⟩
        · simp (maxSteps := 3000000) (maxDischargeDepth := 12) only [push_cast, appendX, Nat.reduceAdd, Nat.reduceEqDiff, Nat.reduceLT, Nat.reduceLeDiff, reduceIte, reduceCtorEq, ROb, tk, gtp, Heap.lt gtp, dc8, dc9, dce, dcl, dc1, dc2]
          simp [tk, he, ROb, hl]
          rw [List.take_of_length_le (by rw [dc8]; exact Nat.le_refl _), bytesD_drop]
        · repeat (first | exact Ext.refl _ _ | assumption | refine Ext.push ?_ _ | ((refine Ext.set ?_ ?_ _); rotate_left; · (simp (maxSteps := 3000000) (maxDischargeDepth := 12) only [push_cast, appendX, Nat.reduceAdd, Nat.reduceEqDiff, Nat.reduceLT, Nat.reduceLeDiff, reduceIte, reduceCtorEq, gtp, Heap.lt gtp, dc8, dc9, dce, dcl, dc1, dc2])) | ((refine Ext.then1 (by assumption) ?_ ?_); rotate_left; · (intro p hp _; first | assumption | exact List.mem_cons_of_mem _ hp | (cases hp; done) | (simp at hp; subst hp; simp))))
  · have dce : (e == 0) = false := by simpa using he
    repeat (first | (with_reducible refine AW.seq ?_) | (with_reducible refine AW.block ?_) | (with_reducible refine AW.skip ?_) | (with_reducible refine AW.ret ?_) | (with_reducible refine AW.exit ?_) | (with_reducible refine AW.reg hT ?_) | ((with_reducible refine AW.cond_true ?_ ?_); · rfl) | ((with_reducible refine AW.cond_false ?_ ?_); · rfl) | simp (maxSteps := 3000000) (maxDischargeDepth := 12) only [push_cast,appendX,reduceIte,reduceCtorEq,Nat.reduceSub,Nat.reduceAdd,Nat.reduceMul,Nat.reduceLT,Nat.reduceLeDiff,Nat.reduceEqDiff,Nat.reduceBEq,Int.reduceToNat,Int.reduceLT,Int.reduceLE,Int.reduceEq,Int.reduceNeg,Try.results48,ROb,gtp,Heap.lt gtp,dc8,dc9,dce])
    refine ⟨.imm [], Tells.nil, by simp [tk, he, bytesD], ?_, ?_⟩
    · simp (maxSteps := 3000000) (maxDischargeDepth := 12) only [push_cast, appendX, Nat.reduceAdd, Nat.reduceEqDiff, Nat.reduceLT, Nat.reduceLeDiff, reduceIte, reduceCtorEq, ROb, tk, gtp, Heap.lt gtp, dc8, dc9, dce]
      simp [tk, he, ROb]
    · repeat (first | exact Ext.refl _ _ | assumption | refine Ext.push ?_ _ | ((refine Ext.set ?_ ?_ _); rotate_left; · (simp (maxSteps := 3000000) (maxDischargeDepth := 12) only [push_cast, appendX, Nat.reduceAdd, Nat.reduceEqDiff, Nat.reduceLT, Nat.reduceLeDiff, reduceIte, reduceCtorEq, gtp, Heap.lt gtp, dc8, dc9, dce])) | ((refine Ext.then1 (by assumption) ?_ ?_); rotate_left; · (intro p hp _; first | assumption | exact List.mem_cons_of_mem _ hp | (cases hp; done) | (simp at hp; subst hp; simp))))
theorem tk_octs {l : List Int} (h : Octs l) (e n : Int) (ok : Bool) : Octs (tk l e n ok).1 ∧ Octs (tk l e n ok).2.2 := by
  unfold tk
  split
  · exact ⟨h, by simp [Octs]⟩
  · split
    · exact ⟨h, by simp [Octs]⟩
    · split
      · exact ⟨h, by simp [Octs]⟩
      · exact ⟨h.drop _, h.take _⟩
theorem tk_len (l : List Int) (e n : Int) (ok : Bool) (hn : ok = true → 0 ≤ n) : (tk l e n ok).2.2.length = 0 ∨ (ok = true ∧ ((tk l e n ok).2.2.length : Int) = n) := by
  unfold tk
  split
  · simp
  · split
    · simp
    · split
      · simp
      · rename_i h1 h2 h3
        have h4 : ok = true := by simpa using h2
        have := hn h4
        refine .inr ⟨h4, ?_⟩
        simp only [List.length_take]; omega
def uiI (out : List Int) (p : Nat) (σ0 : Heap) (m : Nat) (ts : List DV) (σ : Heap) : Prop := ∃ i, m = out.length + 1 - i ∧ i ≤ out.length ∧ σ = σ0 ∧ TellsL ts (.any :: .any :: .any :: .any :: .sc (.int .u64 0) :: .sc (.int .u64 (num (out.take i))) :: .any :: .any :: .any :: .any :: .any :: .any :: .any :: .any :: .any :: .any :: .imm (bytesD out) :: .sc (.int .i64 out.length) :: .sc (.int .i64 i) :: .any :: .any :: .any :: .any :: .any :: .any :: .any :: .any :: .any :: .any :: [])
theorem uint_ok (σ : Heap) {p : Nat} {l : List Int} {e : Int} (n : Int) (gtp : σ.get p = some (ROb l e)) (ho : Octs l) :
    ACalls Try.prog 45 [.ptr p 0 0 1, .sc (.int .i64 n)] σ (fun x σ' => x = .sc (.int .u64 (num (tk l e n (decide (1 ≤ n ∧ n ≤ 8))).2.2)) ∧ σ'.get p = some (ROb (tk l e n (decide (1 ≤ n ∧ n ≤ 8))).1 (tk l e n (decide (1 ≤ n ∧ n ≤ 8))).2.1) ∧ Ext [p] σ σ') := by
  have hlen := tk_len l e n (decide (1 ≤ n ∧ n ≤ 8)) (by simp; omega)
  have hoct := (tk_octs ho e n (decide (1 ≤ n ∧ n ≤ 8))).2
  have hcall := take_ok σ n (decide (1 ≤ n ∧ n ≤ 8)) gtp (by simp; omega)
  revert hlen hoct hcall
  generalize htk : tk l e n (decide (1 ≤ n ∧ n ≤ 8)) = T0
  obtain ⟨left, er, out⟩ := T0
  intro hlen hoct hcall
  simp only at hlen hoct hcall
  have hl8 : out.length ≤ 8 := by
    rcases hlen with h | ⟨h1, h2⟩
    · omega
    · simp at h1; omega
  have dc8 : (bytesD out).length = out.length := bytesD_length _
  refine ACalls.code hT Try.func45 rfl ?_
  simp only [Try.ntmps45, List.length_cons, List.length_nil, Nat.reduceSub, Nat.reduceAdd, List.replicate, List.cons_append, List.nil_append]
  have hok : (decide (1 ≤ n) = true ∧ decide (n ≤ 8) = decide (1 ≤ n ∧ n ≤ 8)) ∨ (decide (1 ≤ n) = false ∧ decide (1 ≤ n ∧ n ≤ 8) = false) := by
    by_cases h : 1 ≤ n
    · exact .inl ⟨by simpa using h, by simp [h]⟩
    · exact .inr ⟨by simpa using h, by simp [h]⟩
  rcases hok with ⟨dc1, dc2⟩ | ⟨dc1, dc2⟩
  all_goals (
    (try rw [dc2] at hcall)
    repeat (first | (with_reducible refine AW.seq ?_) | (with_reducible refine AW.block ?_) | (with_reducible refine AW.skip ?_) | (with_reducible refine AW.ret ?_) | (with_reducible refine AW.exit ?_) | (with_reducible refine AW.reg hT ?_) | ((with_reducible refine AW.cond_true ?_ ?_); · rfl) | ((with_reducible refine AW.cond_false ?_ ?_); · rfl) | simp (maxSteps := 3000000) (maxDischargeDepth := 12) only [push_cast,appendX,reduceIte,reduceCtorEq,Nat.reduceSub,Nat.reduceAdd,Nat.reduceMul,Nat.reduceLT,Nat.reduceLeDiff,Nat.reduceEqDiff,Nat.reduceBEq,Int.reduceToNat,Int.reduceLT,Int.reduceLE,Int.reduceEq,Int.reduceNeg,Try.results45,gtp,Heap.lt gtp,dc8,dc1,dc2])
    refine AOpsL.call (first := []) (cap := []) hT rfl rfl rfl fn48 rfl (ACalls.mono (hcall) ?_)
    rintro x σ1 ⟨rfl, gt1, xt1⟩
    repeat (first | (with_reducible refine AW.seq ?_) | (with_reducible refine AW.block ?_) | (with_reducible refine AW.skip ?_) | (with_reducible refine AW.ret ?_) | (with_reducible refine AW.exit ?_) | (with_reducible refine AW.reg hT ?_) | ((with_reducible refine AW.cond_true ?_ ?_); · rfl) | ((with_reducible refine AW.cond_false ?_ ?_); · rfl) | simp (maxSteps := 3000000) (maxDischargeDepth := 12) only [push_cast,appendX,reduceIte,reduceCtorEq,Nat.reduceSub,Nat.reduceAdd,Nat.reduceMul,Nat.reduceLT,Nat.reduceLeDiff,Nat.reduceEqDiff,Nat.reduceBEq,Int.reduceToNat,Int.reduceLT,Int.reduceLE,Int.reduceEq,Int.reduceNeg,Try.results45,gtp,Heap.lt gtp,dc8,dc1,dc2,gt1,Heap.lt gt1,xt1.2,xt1.ltT,xt1.leT])
    refine AW.loop (uiI out p σ1) (m := out.length + 1) ⟨0, rfl, Nat.zero_le _, rfl, by (simp only [push_cast, TellsL, tells_any, tells_refl, List.take_zero, num, List.foldl_nil])⟩ ?_
    rintro m ts σ3 ⟨i, rfl, hil, rfl, hts⟩
    refine AW.told hts ?_
    clear hts
    by_cases hi : i < out.length
    · have dci : decide ((i : Int) < (out.length : Int)) = true := by simp; omega
      have dci2 : ((i : Int) < (out.length : Int)) = True := by simp; omega
      have dci0 : ((0 : Int) ≤ (i : Int)) = True := by simp
      have dcg := bytesD_get hi
      have dcw : IntKind.i64.wrap ((i : Int) + 1) = (i : Int) + 1 := wrap_i64 (by omega) (by omega)
      have h1 := num_bound (hoct.take i)
      have h2 := num_bound (hoct.take (i + 1))
      have h3 := hoct _ (List.getElem_mem hi)
      have hic : (((i + 1 : Nat)) : Int) = (i : Int) + 1 := by omega
      rw [num_take hi] at h2
      have hp : (256 : Int) ^ (out.take (i + 1)).length ≤ 18446744073709551616 := pow256_le8 (by simp; omega)
      have dcor : Go.bits .or .u64 (IntKind.u64.wrap (num (out.take i) * 2 ^ min 8 64)) (IntKind.u64.wrap out[i]) = num (out.take (i + 1)) := by
        rw [show (2 : Int) ^ min 8 64 = 256 from by decide, or_step h1.1 (by omega) h3.1 (by omega), num_take hi]
      repeat (first | (with_reducible refine AW.seq ?_) | (with_reducible refine AW.block ?_) | (with_reducible refine AW.skip ?_) | (with_reducible refine AW.ret ?_) | (with_reducible refine AW.exit ?_) | (with_reducible refine AW.reg hT ?_) | ((with_reducible refine AW.cond_true ?_ ?_); · rfl) | ((with_reducible refine AW.cond_false ?_ ?_); · rfl) | simp (maxSteps := 3000000) (maxDischargeDepth := 12) only [push_cast,appendX,reduceIte,reduceCtorEq,Nat.reduceSub,Nat.reduceAdd,Nat.reduceMul,Nat.reduceLT,Nat.reduceLeDiff,Nat.reduceEqDiff,Nat.reduceBEq,Int.reduceToNat,Int.reduceLT,Int.reduceLE,Int.reduceEq,Int.reduceNeg,Try.results45,gtp,Heap.lt gtp,dc8,dc1,dc2,gt1,Heap.lt gt1,xt1.2,xt1.ltT,xt1.leT,dci,dci2,dci0,dcg,dcw,dcor])
      refine ⟨out.length + 1 - (i + 1), by omega, i + 1, rfl, hi, rfl, by (simp only [push_cast, TellsL, tells_any, tells_refl, hic])⟩
    · have dci : decide ((i : Int) < (out.length : Int)) = false := by simp; omega
      have he : i = out.length := by omega
      subst he
      rw [List.take_length]
      repeat (first | (with_reducible refine AW.seq ?_) | (with_reducible refine AW.block ?_) | (with_reducible refine AW.skip ?_) | (with_reducible refine AW.ret ?_) | (with_reducible refine AW.exit ?_) | (with_reducible refine AW.reg hT ?_) | ((with_reducible refine AW.cond_true ?_ ?_); · rfl) | ((with_reducible refine AW.cond_false ?_ ?_); · rfl) | simp (maxSteps := 3000000) (maxDischargeDepth := 12) only [push_cast,appendX,reduceIte,reduceCtorEq,Nat.reduceSub,Nat.reduceAdd,Nat.reduceMul,Nat.reduceLT,Nat.reduceLeDiff,Nat.reduceEqDiff,Nat.reduceBEq,Int.reduceToNat,Int.reduceLT,Int.reduceLE,Int.reduceEq,Int.reduceNeg,Try.results45,gtp,Heap.lt gtp,dc8,dc1,dc2,gt1,Heap.lt gt1,xt1.2,xt1.ltT,xt1.leT,dci])
      exact xt1)
end Go.Proofs.Ytkcccomdamdocaa.Cm
