/- The document's Digits and Number. -/
import Derived.Test.YtdibcgcildcjnaaCOct2
import Derived.Test.YtdibcgcildcjnaaCmLib3
namespace Go.Proofs.Ytdibcgcildcjnaa.Cm
open Go.RowKit
set_option linter.unusedVariables false
set_option linter.unusedSimpArgs false
set_option maxRecDepth 20000
set_option maxHeartbeats 8000000
def nmI (l : List Int) (σ0 : Heap) (m : Nat) (ts : List DV) (σ : Heap) : Prop := ∃ i, m = l.length + 1 - i ∧ i ≤ l.length ∧ σ = σ0 ∧ TellsL ts (.imm (bytesD l) :: .any :: .sc (.int .u64 0) :: .sc (.int .u64 (num (l.take i))) :: .sc (.int .i64 i) :: .any :: .any :: .any :: .any :: .any :: .any :: .any :: .any :: .any :: .any :: .any :: .any :: .any :: .any :: .any :: [])
theorem number_ok (σ : Heap) (l : List Int) (ho : Octs l) (hl : l.length ≤ 8) : ACalls Try.prog 48 [.imm (bytesD l)] σ (fun x σ' => x = .sc (.int .u64 (num l)) ∧ σ' = σ) := by
  have dc8 : (bytesD l).length = l.length := bytesD_length _
  refine ACalls.code hT Try.func48 rfl ?_
  simp only [Try.ntmps48, List.length_cons, List.length_nil, Nat.reduceSub, Nat.reduceAdd, List.replicate, List.cons_append, List.nil_append]
  repeat (first | (with_reducible refine AW.seq ?_) | (with_reducible refine AW.block ?_) | (with_reducible refine AW.skip ?_) | (with_reducible refine AW.ret ?_) | (with_reducible refine AW.exit ?_) | (with_reducible refine AW.reg hT ?_) | ((with_reducible refine AW.cond_true ?_ ?_); · rfl) | ((with_reducible refine AW.cond_false ?_ ?_); · rfl) | simp (maxSteps := 3000000) (maxDischargeDepth := 12) only [push_cast, appendX, reduceIte, reduceCtorEq, Nat.reduceSub, Nat.reduceAdd, Nat.reduceMul, Nat.reduceLT, Nat.reduceLeDiff, Nat.reduceEqDiff, Nat.reduceBEq, Int.reduceToNat, Int.reduceLT, Int.reduceLE, Int.reduceEq, Int.reduceNeg, Try.results48, dc8])
  refine AW.loop (nmI l σ) (m := l.length + 1) ⟨0, rfl, Nat.zero_le _, rfl, by (simp only [push_cast, TellsL, tells_any, tells_refl, List.take_zero, num, List.foldl_nil])⟩ ?_
  rintro m ts σ3 ⟨i, rfl, hil, rfl, hts⟩
  refine AW.told hts ?_
  clear hts
  by_cases hi : i < l.length
  · have dci : decide ((i : Int) < (l.length : Int)) = true := by simp; omega
    have dci2 : ((i : Int) < (l.length : Int)) = True := by simp; omega
    have dci0 : ((0 : Int) ≤ (i : Int)) = True := by simp
    have dcg := bytesD_get hi
    have dcw : IntKind.i64.wrap ((i : Int) + 1) = (i : Int) + 1 := wrap_i64 (by omega) (by omega)
    have h1 := num_bound (ho.take i)
    have h2 := num_bound (ho.take (i + 1))
    have h3 := ho _ (List.getElem_mem hi)
    have hic : (((i + 1 : Nat)) : Int) = (i : Int) + 1 := by omega
    rw [num_take hi] at h2
    have hp : (256 : Int) ^ (l.take (i + 1)).length ≤ 18446744073709551616 := pow256_le8 (by simp; omega)
    have dcor : IntKind.u64.wrap (IntKind.u64.wrap (num (l.take i) * 256) + IntKind.u64.wrap l[i]) = num (l.take (i + 1)) := by
      rw [wrap_u64 (n := num (l.take i) * 256) (by omega) (by omega), wrap_u64 (n := l[i]) (by omega) (by omega), wrap_u64 (by omega) (by omega), num_take hi]
    repeat (first | (with_reducible refine AW.seq ?_) | (with_reducible refine AW.block ?_) | (with_reducible refine AW.skip ?_) | (with_reducible refine AW.ret ?_) | (with_reducible refine AW.exit ?_) | (with_reducible refine AW.reg hT ?_) | ((with_reducible refine AW.cond_true ?_ ?_); · rfl) | ((with_reducible refine AW.cond_false ?_ ?_); · rfl) | simp (maxSteps := 3000000) (maxDischargeDepth := 12) only [push_cast, appendX, reduceIte, reduceCtorEq, Nat.reduceSub, Nat.reduceAdd, Nat.reduceMul, Nat.reduceLT, Nat.reduceLeDiff, Nat.reduceEqDiff, Nat.reduceBEq, Int.reduceToNat, Int.reduceLT, Int.reduceLE, Int.reduceEq, Int.reduceNeg, Try.results48, dc8, dci, dci2, dci0, dcg, dcw, dcor])
    refine ⟨l.length + 1 - (i + 1), by omega, i + 1, rfl, hi, rfl, by (simp only [push_cast, TellsL, tells_any, tells_refl, hic])⟩
  · have dci : decide ((i : Int) < (l.length : Int)) = false := by simp; omega
    have he : i = l.length := by omega
    subst he
    rw [List.take_length]
    repeat (first | (with_reducible refine AW.seq ?_) | (with_reducible refine AW.block ?_) | (with_reducible refine AW.skip ?_) | (with_reducible refine AW.ret ?_) | (with_reducible refine AW.exit ?_) | (with_reducible refine AW.reg hT ?_) | ((with_reducible refine AW.cond_true ?_ ?_); · rfl) | ((with_reducible refine AW.cond_false ?_ ?_); · rfl) | simp (maxSteps := 3000000) (maxDischargeDepth := 12) only [push_cast, appendX, reduceIte, reduceCtorEq, Nat.reduceSub, Nat.reduceAdd, Nat.reduceMul, Nat.reduceLT, Nat.reduceLeDiff, Nat.reduceEqDiff, Nat.reduceBEq, Int.reduceToNat, Int.reduceLT, Int.reduceLE, Int.reduceEq, Int.reduceNeg, Try.results48, dc8, dci])
/-- The lowest bytes, the lowest one first. -/
def lows (n : Nat) (u : Int) : List Int := (List.range n).map (digit u)
theorem lows_length (n : Nat) (u : Int) : (lows n u).length = n := by simp [lows]
theorem lows_get {n k : Nat} (h : k < n) (u : Int) : (lows n u)[k]'(by rw [lows_length]; exact h) = digit u k := by simp [lows]
theorem lows_succ (k : Nat) (u : Int) : lows (k + 1) u = lows k u ++ [digit u k] := by simp [lows, List.range_succ]
def dgI (n : Nat) (u : Int) (σ0 : Heap) (m : Nat) (ts : List DV) (σ : Heap) : Prop := ∃ k d, m = n + 1 - k ∧ k ≤ n ∧ Hold σ d 5 (bytesD (lows k u)) ∧ (∀ q ∈ tOf d, σ0.n ≤ q) ∧ Ext [] σ0 σ ∧ TellsL ts (.sc (.int .i64 n) :: .sc (.int .u64 (u / 256 ^ k)) :: .any :: .any :: .sc (.slice none 0 0) :: d :: .sc (.int .i64 k) :: .any :: .any :: .any :: .any :: .any :: .any :: .any :: .any :: .any :: .any :: .any :: .any :: .any :: .any :: .any :: .any :: .any :: .any :: .any :: .any :: .any :: .any :: .any :: .any :: .any :: .any :: .any :: .any :: .any :: [])
def dgJ (n : Nat) (u : Int) (p : DV) (σ0 : Heap) (m : Nat) (ts : List DV) (σ : Heap) : Prop := ∃ k d, m = n + 1 - k ∧ k ≤ n ∧ Hold σ d 5 (bytesD ((digits n u).take k)) ∧ (∀ q ∈ tOf d, σ0.n ≤ q) ∧ Ext [] σ0 σ ∧ TellsL ts (.sc (.int .i64 n) :: .any :: .any :: .any :: .sc (.slice none 0 0) :: p :: .any :: d :: .sc (.int .i64 ((n : Int) - 1 - k)) :: .any :: .any :: .any :: .any :: .any :: .any :: .any :: .any :: .any :: .any :: .any :: .any :: .any :: .any :: .any :: .any :: .any :: .any :: .any :: .any :: .any :: .any :: .any :: .any :: .any :: .any :: .any :: [])
theorem digits_own (σ : Heap) (n : Nat) (u : Int) (hn : n ≤ 8) (h0 : 0 ≤ u) (hu : u < 18446744073709551616) : ACalls Try.prog 47 [.sc (.int .i64 n), .sc (.int .u64 u)] σ (fun x σ' => Hold σ' x 5 (bytesD (digits n u)) ∧ (∀ q ∈ tOf x, σ.n ≤ q) ∧ Ext [] σ σ') := by
  have dcw2 : IntKind.i64.wrap ((n : Int) - 1) = (n : Int) - 1 := wrap_i64 (by omega) (by omega)
  refine ACalls.code hT Try.func47 rfl ?_
  simp only [Try.ntmps47, List.length_cons, List.length_nil, Nat.reduceSub, Nat.reduceAdd, List.replicate, List.cons_append, List.nil_append]
  repeat (first | (with_reducible refine AW.seq ?_) | (with_reducible refine AW.block ?_) | (with_reducible refine AW.skip ?_) | (with_reducible refine AW.ret ?_) | (with_reducible refine AW.exit ?_) | (with_reducible refine AW.reg hT ?_) | ((with_reducible refine AW.cond_true ?_ ?_); · rfl) | ((with_reducible refine AW.cond_false ?_ ?_); · rfl) | simp (maxSteps := 3000000) (maxDischargeDepth := 12) only [push_cast, appendX, reduceIte, reduceCtorEq, Nat.reduceSub, Nat.reduceAdd, Nat.reduceMul, Nat.reduceLT, Nat.reduceLeDiff, Nat.reduceEqDiff, Nat.reduceBEq, Int.reduceToNat, Int.reduceLT, Int.reduceLE, Int.reduceEq, Int.reduceNeg, Try.results47, dcw2])
  refine AW.loop (dgI n u σ) (m := n + 1) ⟨0, .sc (.slice none 0 0), rfl, Nat.zero_le _, Hold.nil _ _, by simp [tOf], Ext.refl _ _, by (simp only [push_cast, TellsL, tells_any, tells_refl, Int.pow_zero, Int.ediv_one])⟩ ?_
  rintro m ts σ3 ⟨k, d, rfl, hkn, hh, hnew, xt3, hts⟩
  refine AW.told hts ?_
  clear hts
  by_cases hk : k < n
  · have dck : decide ((k : Int) < (n : Int)) = true := by simp; omega
    have dcw : IntKind.i64.wrap ((k : Int) + 1) = (k : Int) + 1 := wrap_i64 (by omega) (by omega)
    have hp := pow_pos256 k
    have hq : 0 ≤ u / 256 ^ k := Int.ediv_nonneg h0 (by omega)
    have dcd : IntKind.u8.wrap ((u / 256 ^ k).tmod 256) = digit u k := by rw [Int.tmod_eq_emod_of_nonneg hq, wrap_u8_mod, digit]; omega
    have dce : IntKind.u64.wrap ((u / 256 ^ k).tdiv 256) = u / 256 ^ (k + 1) := by
      have h4 : u / 256 ^ k / 256 = u / (256 ^ k * 256) := Int.ediv_ediv_of_nonneg (by omega)
      have h5 : u / 256 ^ k ≤ u := Int.ediv_le_self _ h0
      rw [Int.tdiv_eq_ediv_of_nonneg hq, Int.pow_succ, ← h4]
      exact wrap_u64 (by omega) (by omega)
    have hic : (((k + 1 : Nat)) : Int) = (k : Int) + 1 := by omega
    obtain ⟨d3, σ4, dnapp, hh4, hnew4, xt4⟩ := hh.app1 (ty := 30) (x := [.sc (.int .u8 (digit u k))]) hnew xt3 rfl rfl (by decide) rfl (by simp [bytesD_length, lows_length]; omega)
    repeat (first | (with_reducible refine AW.seq ?_) | (with_reducible refine AW.block ?_) | (with_reducible refine AW.skip ?_) | (with_reducible refine AW.ret ?_) | (with_reducible refine AW.exit ?_) | (with_reducible refine AW.reg hT ?_) | ((with_reducible refine AW.cond_true ?_ ?_); · rfl) | ((with_reducible refine AW.cond_false ?_ ?_); · rfl) | simp (maxSteps := 3000000) (maxDischargeDepth := 12) only [push_cast, appendX, reduceIte, reduceCtorEq, Nat.reduceSub, Nat.reduceAdd, Nat.reduceMul, Nat.reduceLT, Nat.reduceLeDiff, Nat.reduceEqDiff, Nat.reduceBEq, Int.reduceToNat, Int.reduceLT, Int.reduceLE, Int.reduceEq, Int.reduceNeg, Try.results47, dcw2, xt3.2, xt3.ltT, xt3.leT, dck, dcw, dcd, dce, ↓dnapp, xt4.2, xt4.ltT, xt4.leT])
    refine ⟨n + 1 - (k + 1), by omega, k + 1, d3, rfl, hk, ?_, hnew4, xt4, by (simp only [push_cast, TellsL, tells_any, tells_refl, hic])⟩
    rw [lows_succ, bytesD_append]; exact hh4
  · have dck : decide ((k : Int) < (n : Int)) = false := by simp; omega
    have he : k = n := by omega
    subst he
    repeat (first | (with_reducible refine AW.seq ?_) | (with_reducible refine AW.block ?_) | (with_reducible refine AW.skip ?_) | (with_reducible refine AW.ret ?_) | (with_reducible refine AW.exit ?_) | (with_reducible refine AW.reg hT ?_) | ((with_reducible refine AW.cond_true ?_ ?_); · rfl) | ((with_reducible refine AW.cond_false ?_ ?_); · rfl) | simp (maxSteps := 3000000) (maxDischargeDepth := 12) only [push_cast, appendX, reduceIte, reduceCtorEq, Nat.reduceSub, Nat.reduceAdd, Nat.reduceMul, Nat.reduceLT, Nat.reduceLeDiff, Nat.reduceEqDiff, Nat.reduceBEq, Int.reduceToNat, Int.reduceLT, Int.reduceLE, Int.reduceEq, Int.reduceNeg, Try.results47, dcw2, xt3.2, xt3.ltT, xt3.leT, dck])
    refine AW.loop (dgJ k u d σ3) (m := k + 1) ⟨0, .sc (.slice none 0 0), rfl, Nat.zero_le _, Hold.nil _ _, by simp [tOf], Ext.refl _ _, by (simp only [push_cast, TellsL, tells_any, tells_refl, Int.sub_zero])⟩ ?_
    rintro m ts σ5 ⟨j, d2, rfl, hjn, hh2, hnew2, xt5, hts⟩
    refine AW.told hts ?_
    clear hts
    by_cases hj : j < k
    · have dcj : decide (0 ≤ (k : Int) - 1 - (j : Int)) = true := by simp; omega
      have dcw5 : IntKind.i64.wrap ((k : Int) - 1 - (j : Int) - 1) = (k : Int) - 1 - ((j + 1 : Nat) : Int) := by rw [wrap_i64 (by omega) (by omega)]; omega
      have hdk : (digits k u).take (j + 1) = (digits k u).take j ++ [digit u (k - 1 - j)] := by rw [List.take_add_one, digits_get k u j hj]; rfl
      have hp := hh.frame xt5 (by simp)
      obtain ⟨t, full, rfl, gtt, hel⟩ := hp.at_ (i := k - 1 - j) (by rw [bytesD_length, lows_length]; omega)
      have dcel : full[k - 1 - j]? = some [.sc (.int .u8 (digit u (k - 1 - j)))] := by
        rw [hel]; simp [bytesD, lows]
      have dcn : ((k : Int) - 1 - (j : Int)).toNat = k - 1 - j := by omega
      have dcl : (bytesD (lows k u)).length = k := by rw [bytesD_length, lows_length]
      have dca : (0 ≤ (k : Int) - 1 - (j : Int)) = True := by simp; omega
      have dcb : ((k : Int) - 1 - (j : Int) < (k : Int)) = True := by simp; omega
      obtain ⟨d3, σ6, dnapp, hh4, hnew4, xt6⟩ := hh2.app1 (ty := 30) (x := [.sc (.int .u8 (digit u (k - 1 - j)))]) hnew2 xt5 rfl rfl (by decide) rfl (by have := digits_length k u; simp [bytesD_length]; omega)
      repeat (first | (with_reducible refine AW.seq ?_) | (with_reducible refine AW.block ?_) | (with_reducible refine AW.skip ?_) | (with_reducible refine AW.ret ?_) | (with_reducible refine AW.exit ?_) | (with_reducible refine AW.reg hT ?_) | ((with_reducible refine AW.cond_true ?_ ?_); · rfl) | ((with_reducible refine AW.cond_false ?_ ?_); · rfl) | simp (maxSteps := 3000000) (maxDischargeDepth := 12) only [push_cast, appendX, reduceIte, reduceCtorEq, Nat.reduceSub, Nat.reduceAdd, Nat.reduceMul, Nat.reduceLT, Nat.reduceLeDiff, Nat.reduceEqDiff, Nat.reduceBEq, Int.reduceToNat, Int.reduceLT, Int.reduceLE, Int.reduceEq, Int.reduceNeg, Try.results47, dcw2, xt3.2, xt3.ltT, xt3.leT, dck, xt5.2, xt5.ltT, xt5.leT, dcj, dcw5, gtt, Heap.lt gtt, dcel, dcn, dcl, dca, dcb, ↓dnapp, xt6.2, xt6.ltT, xt6.leT])
      refine ⟨k + 1 - (j + 1), by omega, j + 1, d3, rfl, hj, ?_, hnew4, xt6, by (simp only [push_cast, TellsL, tells_any, tells_refl, dcl])⟩
      rw [hdk, bytesD_append]; exact hh4
    · have dcj : decide (0 ≤ (k : Int) - 1 - (j : Int)) = false := by simp; omega
      have dncl := hh2.cells
      have dnlf := hh2.leaf
      repeat (first | (with_reducible refine AW.seq ?_) | (with_reducible refine AW.block ?_) | (with_reducible refine AW.skip ?_) | (with_reducible refine AW.ret ?_) | (with_reducible refine AW.exit ?_) | (with_reducible refine AW.reg hT ?_) | ((with_reducible refine AW.cond_true ?_ ?_); · rfl) | ((with_reducible refine AW.cond_false ?_ ?_); · rfl) | simp (maxSteps := 3000000) (maxDischargeDepth := 12) only [push_cast, appendX, reduceIte, reduceCtorEq, Nat.reduceSub, Nat.reduceAdd, Nat.reduceMul, Nat.reduceLT, Nat.reduceLeDiff, Nat.reduceEqDiff, Nat.reduceBEq, Int.reduceToNat, Int.reduceLT, Int.reduceLE, Int.reduceEq, Int.reduceNeg, Try.results47, dcw2, xt3.2, xt3.ltT, xt3.leT, dck, xt5.2, xt5.ltT, xt5.leT, dcj, ↓dncl, ↓dnlf])
      refine ⟨?_, fun q hq => Nat.le_trans xt3.1 (hnew2 q hq), xt3.trans xt5⟩
      rwa [List.take_of_length_le (by rw [digits_length]; omega)] at hh2
theorem digits_ok (σ : Heap) (n : Nat) (u : Int) (hn : n ≤ 8) (h0 : 0 ≤ u) (hu : u < 18446744073709551616) : ACalls Try.prog 47 [.sc (.int .i64 n), .sc (.int .u64 u)] σ (fun x σ' => x = .imm (bytesD (digits n u)) ∧ Ext [] σ σ') :=
  ACalls.toImmH (e := 5) (digits_own σ n u hn h0 hu)
end Go.Proofs.Ytdibcgcildcjnaa.Cm
