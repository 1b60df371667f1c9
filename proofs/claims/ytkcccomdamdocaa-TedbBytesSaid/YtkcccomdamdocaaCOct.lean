/- Package octet, and the document's Digits and Number. -/
import Derived.Test.YtkcccomdamdocaaPNum
namespace Go.Proofs.Ytkcccomdamdocaa.Cm
open Go.RowKit
set_option linter.unusedVariables false
set_option linter.unusedSimpArgs false
set_option maxRecDepth 20000
set_option maxHeartbeats 8000000
abbrev tB := 52
theorem hold_len {σ : Heap} {d : DV} {l : List Int} (h : Hold σ d 5 (bytesD l)) : lenD T 52 d = some (l.length : Int) := by
  have := h.len (T := T) (ty := 52) rfl
  rwa [bytesD_length] at this
def putI (l : List Int) (n : Nat) (u : Int) (σ0 : Heap) (m : Nat) (ts : List DV) (σ : Heap) : Prop := ∃ k d, m = n + 1 - k ∧ k ≤ n ∧ Hold σ d 5 (bytesD (l ++ (digits n u).take k)) ∧ (∀ q ∈ tOf d, σ0.n ≤ q) ∧ Ext [] σ0 σ ∧ TellsL ts (.any :: .sc (.int .i64 n) :: .sc (.int .u64 u) :: .any :: .any :: .any :: .sc (.slice none 0 0) :: .sc (.int .i64 0) :: d :: .sc (.int .i64 ((n : Int) - 1 - k)) :: .any :: .any :: .any :: .any :: .any :: .any :: .any :: .any :: .any :: .any :: .any :: .any :: .any :: .any :: .any :: .any :: .any :: .any :: .any :: .any :: .any :: .any :: .any :: .any :: .any :: .any :: .any :: .any :: .any :: .any :: .any :: .any :: .any :: .any :: .any :: .any :: .any :: .any :: .any :: [])
theorem put_step {n : Nat} {u : Int} {k : Nat} (h : k < n) (hn : n ≤ 8) (h0 : 0 ≤ u) : IntKind.u8.wrap (u.fdiv (2 ^ min (8 * ((n : Int) - 1 - k)).toNat 64)) = digit u (n - 1 - k) := by
  have e : (8 * ((n : Int) - 1 - k)).toNat = 8 * (n - 1 - k) := by omega
  have e2 : min (8 * (n - 1 - k)) 64 = 8 * (n - 1 - k) := by omega
  rw [e, e2, wrap_u8_mod, digit, Int.fdiv_eq_ediv_of_nonneg _ (by exact_mod_cast Nat.zero_le _), Int.pow_mul]
  rfl
theorem put_ok (σ : Heap) (d : DV) (l : List Int) (n : Nat) (u : Int) (hs : Src σ d (bytesD l)) (dnl : lenD T 52 d = some (l.length : Int)) (hb : l.length ≤ 1000000) (h1 : 1 ≤ n) (h8 : n ≤ 8) (h0 : 0 ≤ u) (hu : n < 8 → u < 256 ^ n) :
    ACalls Try.prog 37 [d, .sc (.int .i64 n), .sc (.int .u64 u)] σ (fun x σ' => ∃ d', x = .tup [d', .sc (.int .i64 0)] ∧ Hold σ' d' 5 (bytesD (l ++ digits n u)) ∧ (∀ q ∈ tOf d', σ.n ≤ q) ∧ Ext [] σ σ') := by
  have dc1 : decide ((n : Int) < 1) = false := by simp; omega
  have dc2 : decide (8 < (n : Int)) = false := by simp; omega
  have dcw : IntKind.i64.wrap (8 * (n : Int)) = 8 * (n : Int) := wrap_i64 (by omega) (by omega)
  have dcw2 : IntKind.i64.wrap ((n : Int) - 1) = (n : Int) - 1 := wrap_i64 (by omega) (by omega)
  have dcw3 : IntKind.i64.wrap ((l.length : Int) + (n : Int)) = (l.length : Int) + (n : Int) := wrap_i64 (by omega) (by omega)
  have dc5 : (0 ≤ 8 * (n : Int)) = True := by simp; omega
  have dc6 : (0 ≤ (l.length : Int) + (n : Int)) = True := by simp; omega
  have dc7 : ((l.length : Int) + (n : Int)).toNat * 2 ≤ 140737488355328 := by omega
  have dc8 : (bytesD l).length = l.length := bytesD_length _
  have dc9 : ((bytesD l).all fun el => el.length == 1) = true := by rw [List.all_eq_true]; intro x hx; simp [bytesD_size l x hx]
  have dnp := hs.push
  refine ACalls.code hT Try.func37 rfl ?_
  simp only [Try.ntmps37, List.length_cons, List.length_nil, Nat.reduceSub, Nat.reduceAdd, List.replicate, List.cons_append, List.nil_append]
  repeat ((fail_if_success (with_reducible refine AW.at3 (id := 0) ?_)); first | (with_reducible refine AW.seq ?_) | (with_reducible refine AW.block ?_) | (with_reducible refine AW.skip ?_) | (with_reducible refine AW.ret ?_) | (with_reducible refine AW.exit ?_) | (with_reducible refine AW.reg hT ?_) | ((with_reducible refine AW.cond_true ?_ ?_); · rfl) | ((with_reducible refine AW.cond_false ?_ ?_); · rfl) | simp (maxSteps := 3000000) (maxDischargeDepth := 12) only [push_cast,appendX,reduceIte,reduceCtorEq,Nat.reduceSub,Nat.reduceAdd,Nat.reduceMul,Nat.reduceLT,Nat.reduceLeDiff,Nat.reduceEqDiff,Nat.reduceBEq,Int.reduceToNat,Int.reduceLT,Int.reduceLE,Int.reduceEq,Int.reduceNeg,Try.results37,↓dnl,dc1,dc2,dcw,dcw2,dcw3,dc5,dc6,dc7,dc8,dc9,↓dnp])
  refine AW.seqK (fun ts' σ' => σ' = σ ∧ TellsL ts' (d :: .sc (.int .i64 n) :: .sc (.int .u64 u) :: .any :: .any :: .any :: .sc (.slice none 0 0) :: .sc (.int .i64 0) :: .any :: .any :: .any :: .any :: .any :: .any :: .any :: .any :: .any :: .any :: .any :: .any :: .any :: .any :: .any :: .any :: .any :: .any :: .any :: .any :: .any :: .any :: .any :: .any :: .any :: .any :: .any :: .any :: .any :: .any :: .any :: .any :: .any :: .any :: .any :: .any :: .any :: .any :: .any :: .any :: .any :: [])) ?_ ?_
  · by_cases hn8 : n < 8
    · have dc3 : decide ((n : Int) < 8) = true := by simp; omega
      have dc4 : (u.fdiv (2 ^ min (8 * (n : Int)).toNat 64) == 0) = true := by
        have e : (8 * (n : Int)).toNat = 8 * n := by omega
        have e2 : min (8 * n) 64 = 8 * n := by omega
        rw [e, e2, Int.fdiv_eq_ediv_of_nonneg _ (by exact_mod_cast Nat.zero_le _), Int.pow_mul]
        simpa using Int.ediv_eq_zero_of_lt h0 (hu hn8)
      repeat (first | (with_reducible refine AW.seq ?_) | (with_reducible refine AW.block ?_) | (with_reducible refine AW.skip ?_) | (with_reducible refine AW.ret ?_) | (with_reducible refine AW.exit ?_) | (with_reducible refine AW.reg hT ?_) | ((with_reducible refine AW.cond_true ?_ ?_); · rfl) | ((with_reducible refine AW.cond_false ?_ ?_); · rfl) | simp (maxSteps := 3000000) (maxDischargeDepth := 12) only [push_cast,appendX,reduceIte,reduceCtorEq,Nat.reduceSub,Nat.reduceAdd,Nat.reduceMul,Nat.reduceLT,Nat.reduceLeDiff,Nat.reduceEqDiff,Nat.reduceBEq,Int.reduceToNat,Int.reduceLT,Int.reduceLE,Int.reduceEq,Int.reduceNeg,Try.results37,↓dnl,dc1,dc2,dcw,dcw2,dcw3,dc5,dc6,dc7,dc8,dc9,↓dnp,dc3,dc4])
      (simp only [push_cast, TellsL, tells_any, tells_refl])
    · have dc3 : decide ((n : Int) < 8) = false := by simp; omega
      repeat (first | (with_reducible refine AW.seq ?_) | (with_reducible refine AW.block ?_) | (with_reducible refine AW.skip ?_) | (with_reducible refine AW.ret ?_) | (with_reducible refine AW.exit ?_) | (with_reducible refine AW.reg hT ?_) | ((with_reducible refine AW.cond_true ?_ ?_); · rfl) | ((with_reducible refine AW.cond_false ?_ ?_); · rfl) | simp (maxSteps := 3000000) (maxDischargeDepth := 12) only [push_cast,appendX,reduceIte,reduceCtorEq,Nat.reduceSub,Nat.reduceAdd,Nat.reduceMul,Nat.reduceLT,Nat.reduceLeDiff,Nat.reduceEqDiff,Nat.reduceBEq,Int.reduceToNat,Int.reduceLT,Int.reduceLE,Int.reduceEq,Int.reduceNeg,Try.results37,↓dnl,dc1,dc2,dcw,dcw2,dcw3,dc5,dc6,dc7,dc8,dc9,↓dnp,dc3])
      (simp only [push_cast, TellsL, tells_any, tells_refl])
  · rintro ts σ' ⟨rfl, hts⟩
    refine AW.told hts ?_
    clear hts
    have hrow : ∃ d1 σ1, appendX T (σ'.push ⟨[], 5, true⟩) 52 (.sl σ'.n 0 0 0) d = some (d1, σ1) ∧ Hold σ1 d1 5 (bytesD l) ∧ (∀ q ∈ tOf d1, σ'.n ≤ q) ∧ Ext [] σ' σ1 := by
      by_cases hl0 : l = []
      · subst hl0
        refine ⟨.sl σ'.n 0 0 0, σ'.push ⟨[], 5, true⟩, by simp (maxSteps := 3000000) (maxDischargeDepth := 12) only [push_cast,appendX,reduceIte,reduceCtorEq,Nat.reduceSub,Nat.reduceAdd,Nat.reduceMul,Nat.reduceLT,Nat.reduceLeDiff,Nat.reduceEqDiff,Nat.reduceBEq,Int.reduceToNat,Int.reduceLT,Int.reduceLE,Int.reduceEq,Int.reduceNeg,bytesD,↓dnl,dc1,dc2,dcw,dcw2,dcw3,dc5,dc6,dc7,dc8,dc9,↓dnp], .inr ⟨σ'.n, [], rfl, by simp, Nat.le_refl _, rfl⟩, by simp [tOf], (Ext.refl _ _).push _⟩
      · have hl1 : ¬ l.length = 0 := by simpa using hl0
        have hl2 : l.length * 2 ≤ 140737488355328 := by omega
        refine ⟨.sl σ'.n 0 l.length l.length, (σ'.push ⟨[], 5, true⟩).set σ'.n ⟨bytesD l, 5, true⟩, by simp (maxSteps := 3000000) (maxDischargeDepth := 12) only [push_cast,appendX,reduceIte,reduceCtorEq,Nat.reduceSub,Nat.reduceAdd,Nat.reduceMul,Nat.reduceLT,Nat.reduceLeDiff,Nat.reduceEqDiff,Nat.reduceBEq,Int.reduceToNat,Int.reduceLT,Int.reduceLE,Int.reduceEq,Int.reduceNeg,hl1,hl2,↓dnl,dc1,dc2,dcw,dcw2,dcw3,dc5,dc6,dc7,dc8,dc9,↓dnp], ?_, by simp [tOf], ?_⟩
        · refine .inr ⟨σ'.n, bytesD l, by simp [bytesD_length], Heap.get_set (by simp), Nat.le_refl _, List.take_length⟩
        · repeat (first | exact Ext.refl _ _ | assumption | refine Ext.push ?_ _ | ((refine Ext.set ?_ ?_ _); rotate_left; · (simp (maxSteps := 3000000) (maxDischargeDepth := 12) only [push_cast, appendX, Nat.reduceAdd, Nat.reduceEqDiff, Nat.reduceLT, Nat.reduceLeDiff, reduceIte, reduceCtorEq, ↓dnl, dc1, dc2, dcw, dcw2, dcw3, dc5, dc6, dc7, dc8, dc9, ↓dnp])) | ((refine Ext.then1 (by assumption) ?_ ?_); rotate_left; · (intro p hp _; first | assumption | exact List.mem_cons_of_mem _ hp | (cases hp; done) | (simp at hp; subst hp; simp))))
    obtain ⟨d1, σ1, dnapp, hh1, hn1, xt1⟩ := hrow
    repeat (first | (with_reducible refine AW.seq ?_) | (with_reducible refine AW.block ?_) | (with_reducible refine AW.skip ?_) | (with_reducible refine AW.ret ?_) | (with_reducible refine AW.exit ?_) | (with_reducible refine AW.reg hT ?_) | ((with_reducible refine AW.cond_true ?_ ?_); · rfl) | ((with_reducible refine AW.cond_false ?_ ?_); · rfl) | simp (maxSteps := 3000000) (maxDischargeDepth := 12) only [push_cast,appendX,reduceIte,reduceCtorEq,Nat.reduceSub,Nat.reduceAdd,Nat.reduceMul,Nat.reduceLT,Nat.reduceLeDiff,Nat.reduceEqDiff,Nat.reduceBEq,Int.reduceToNat,Int.reduceLT,Int.reduceLE,Int.reduceEq,Int.reduceNeg,Try.results37,↓dnl,dc1,dc2,dcw,dcw2,dcw3,dc5,dc6,dc7,dc8,dc9,↓dnp,↓dnapp,xt1.2,xt1.ltT,xt1.leT])
    refine AW.loop (putI l n u σ') (m := n + 1) ⟨0, d1, rfl, Nat.zero_le _, by simpa using hh1, hn1, xt1, by (simp only [push_cast, TellsL, tells_any, tells_refl, Int.sub_zero, cast0])⟩ ?_
    rintro m ts σ3 ⟨k, d2, rfl, hkn, hh, hnew, xt3, hts⟩
    refine AW.told hts ?_
    clear hts
    by_cases hk : k < n
    · have dck : decide (0 ≤ (n : Int) - 1 - (k : Int)) = true := by simp; omega
      have dcw4 : IntKind.i64.wrap (8 * ((n : Int) - 1 - (k : Int))) = 8 * ((n : Int) - 1 - (k : Int)) := wrap_i64 (by omega) (by omega)
      have dcw5 : IntKind.i64.wrap ((n : Int) - 1 - (k : Int) - 1) = (n : Int) - 1 - ((k + 1 : Nat) : Int) := by rw [wrap_i64 (by omega) (by omega)]; omega
      have dcs := put_step hk h8 h0
      have dc10 : (0 ≤ 8 * ((n : Int) - 1 - (k : Int))) = True := by simp; omega
      have hdk : (digits n u).take (k + 1) = (digits n u).take k ++ [digit u (n - 1 - k)] := by rw [List.take_add_one, digits_get n u k hk]; rfl
      obtain ⟨d3, σ4, dnapp2, hh4, xt4, hfp⟩ := Hold.append (T := T) (ty := 52) (x := .sl σ3.n 0 1 1) (xs := [[.sc (.int .u8 (digit u (n - 1 - k)))]]) (hh.frame (X := []) (σ' := σ3.push ⟨[[.sc (.int .u8 (digit u (n - 1 - k)))]], 5, true⟩) (by repeat (first | exact Ext.refl _ _ | assumption | refine Ext.push ?_ _ | ((refine Ext.set ?_ ?_ _); rotate_left; · (simp (maxSteps := 3000000) (maxDischargeDepth := 12) only [push_cast, appendX, Nat.reduceAdd, Nat.reduceEqDiff, Nat.reduceLT, Nat.reduceLeDiff, reduceIte, reduceCtorEq, ↓dnl, dc1, dc2, dcw, dcw2, dcw3, dc5, dc6, dc7, dc8, dc9, ↓dnp, ↓dnapp, xt1.2, xt1.ltT, xt1.leT, xt3.2, xt3.ltT, xt3.leT, dck, dcw4, dcw5, dcs, dc10])) | ((refine Ext.then1 (by assumption) ?_ ?_); rotate_left; · (intro p hp _; first | assumption | exact List.mem_cons_of_mem _ hp | (cases hp; done) | (simp at hp; subst hp; simp))))) (by simp)) rfl rfl (by decide) (by simp (maxSteps := 3000000) (maxDischargeDepth := 12) only [push_cast,appendX,reduceIte,reduceCtorEq,Nat.reduceSub,Nat.reduceAdd,Nat.reduceMul,Nat.reduceLT,Nat.reduceLeDiff,Nat.reduceEqDiff,Nat.reduceBEq,Int.reduceToNat,Int.reduceLT,Int.reduceLE,Int.reduceEq,Int.reduceNeg,sliceD,↓dnl,dc1,dc2,dcw,dcw2,dcw3,dc5,dc6,dc7,dc8,dc9,↓dnp,↓dnapp,xt1.2,xt1.ltT,xt1.leT,xt3.2,xt3.ltT,xt3.leT,dck,dcw4,dcw5,dcs,dc10]) (by simp) rfl (by
        have := digits_length n u
        simp [bytesD_length]; omega)
      repeat (first | (with_reducible refine AW.seq ?_) | (with_reducible refine AW.block ?_) | (with_reducible refine AW.skip ?_) | (with_reducible refine AW.ret ?_) | (with_reducible refine AW.exit ?_) | (with_reducible refine AW.reg hT ?_) | ((with_reducible refine AW.cond_true ?_ ?_); · rfl) | ((with_reducible refine AW.cond_false ?_ ?_); · rfl) | simp (maxSteps := 3000000) (maxDischargeDepth := 12) only [push_cast,appendX,reduceIte,reduceCtorEq,Nat.reduceSub,Nat.reduceAdd,Nat.reduceMul,Nat.reduceLT,Nat.reduceLeDiff,Nat.reduceEqDiff,Nat.reduceBEq,Int.reduceToNat,Int.reduceLT,Int.reduceLE,Int.reduceEq,Int.reduceNeg,Try.results37,↓dnl,dc1,dc2,dcw,dcw2,dcw3,dc5,dc6,dc7,dc8,dc9,↓dnp,↓dnapp,xt1.2,xt1.ltT,xt1.leT,xt3.2,xt3.ltT,xt3.leT,dck,dcw4,dcw5,dcs,dc10,↓dnapp2,xt4.2,xt4.ltT,xt4.leT])
      refine ⟨n + 1 - (k + 1), by omega, k + 1, d3, rfl, hk, ?_, ?_, ?_, ?_⟩
      · rw [hdk, ← List.append_assoc, bytesD_append]; exact hh4
      · intro q hq
        rcases Nat.lt_or_ge q (σ3.push ⟨[[.sc (.int .u8 (digit u (n - 1 - k)))]], 5, true⟩).n with h | h
        · exact hnew q (hfp q h hq)
        · have h1 := xt3.1; simp at h; omega
      · exact (xt3.push _).then xt4 (fun q hq hlq => absurd (hnew q hq) (by omega))
      · (simp only [push_cast, TellsL, tells_any, tells_refl])
    · have dck : decide (0 ≤ (n : Int) - 1 - (k : Int)) = false := by simp; omega
      have dncl := hh.cells
      have dnlf := hh.leaf
      repeat (first | (with_reducible refine AW.seq ?_) | (with_reducible refine AW.block ?_) | (with_reducible refine AW.skip ?_) | (with_reducible refine AW.ret ?_) | (with_reducible refine AW.exit ?_) | (with_reducible refine AW.reg hT ?_) | ((with_reducible refine AW.cond_true ?_ ?_); · rfl) | ((with_reducible refine AW.cond_false ?_ ?_); · rfl) | simp (maxSteps := 3000000) (maxDischargeDepth := 12) only [push_cast,appendX,reduceIte,reduceCtorEq,Nat.reduceSub,Nat.reduceAdd,Nat.reduceMul,Nat.reduceLT,Nat.reduceLeDiff,Nat.reduceEqDiff,Nat.reduceBEq,Int.reduceToNat,Int.reduceLT,Int.reduceLE,Int.reduceEq,Int.reduceNeg,Try.results37,↓dnl,dc1,dc2,dcw,dcw2,dcw3,dc5,dc6,dc7,dc8,dc9,↓dnp,↓dnapp,xt1.2,xt1.ltT,xt1.leT,xt3.2,xt3.ltT,xt3.leT,dck,↓dncl,↓dnlf])
      refine ⟨d2, rfl, ?_, hnew, xt3⟩
      rwa [List.take_of_length_le (by rw [digits_length]; omega)] at hh
end Go.Proofs.Ytkcccomdamdocaa.Cm
