/- The document's Digits and Number. TedbBack. The document's bytes and Encode. Regions that draw their order, in which some operations are told to be silent: whatever the heap is, they answer the same and leave it. The document's guess and Decode. The document's Decode. -/
import Derived.Test.YtkcccomdamdocaaCOct2
import Derived.Test.YtkcccomdamdocaaCmLib3
import Derived.Test.YtkcccomdamdocaaTedbYb
import Derived.Test.YtkcccomdamdocaaCmDraw
namespace Go.Proofs.Ytkcccomdamdocaa.Cm
open Go.RowKit
set_option linter.unusedVariables false
set_option linter.unusedSimpArgs false
set_option maxRecDepth 20000
set_option maxHeartbeats 8000000
def nmI (l : List Int) (σ0 : Heap) (m : Nat) (ts : List DV) (σ : Heap) : Prop := ∃ i, m = l.length + 1 - i ∧ i ≤ l.length ∧ σ = σ0 ∧ TellsL ts (.imm (bytesD l) :: .any :: .sc (.int .u64 0) :: .sc (.int .u64 (num (l.take i))) :: .sc (.int .i64 i) :: .any :: .any :: .any :: .any :: .any :: .any :: .any :: .any :: .any :: .any :: .any :: .any :: .any :: .any :: .any :: [])
theorem number_ok (σ : Heap) (l : List Int) (ho : Octs l) (hl : l.length ≤ 8) : ACalls Try.prog 47 [.imm (bytesD l)] σ (fun x σ' => x = .sc (.int .u64 (num l)) ∧ σ' = σ) := by
  have dc8 : (bytesD l).length = l.length := bytesD_length _
  refine ACalls.code hT Try.func47 rfl ?_
  simp only [Try.ntmps47, List.length_cons, List.length_nil, Nat.reduceSub, Nat.reduceAdd, List.replicate, List.cons_append, List.nil_append]
  repeat (first | (with_reducible refine AW.seq ?_) | (with_reducible refine AW.block ?_) | (with_reducible refine AW.skip ?_) | (with_reducible refine AW.ret ?_) | (with_reducible refine AW.exit ?_) | (with_reducible refine AW.reg hT ?_) | ((with_reducible refine AW.cond_true ?_ ?_); · rfl) | ((with_reducible refine AW.cond_false ?_ ?_); · rfl) | simp (maxSteps := 3000000) (maxDischargeDepth := 12) only [push_cast,appendX,reduceIte,reduceCtorEq,Nat.reduceSub,Nat.reduceAdd,Nat.reduceMul,Nat.reduceLT,Nat.reduceLeDiff,Nat.reduceEqDiff,Nat.reduceBEq,Int.reduceToNat,Int.reduceLT,Int.reduceLE,Int.reduceEq,Int.reduceNeg,Try.results47,dc8])
  refine AW.loop (nmI l σ) (m := l.length + 1) ⟨0, rfl, Nat.zero_le _, rfl, by (simp only [push_cast, TellsL, tells_any, tells_refl, List.take_zero, num, List.foldl_nil])⟩ ?_
  rintro m ts σ3 ⟨i, rfl, hil, rfl, hts⟩
  refine AW.told hts ?_
  clear hts
  by_cases hi : i < l.length
  · have dci : decide ((i : Int) < (l.length : Int)) = true := by simp; omega
    have dci2 : ((i : Int) < (l.length : Int)) = True := by simp; omega
    have dci0 : ((0 : Int) ≤ (i : Int)) = True := by simp
    have dcg := bytesD_get hi
    have dcw : IntKind.i64.wrap ((i : Int) + 1) = (i : Int) + 1 := wrap_i64 (by omega) (by omega)
    have h1 := num_bound (ho.take i)
    have h2 := num_bound (ho.take (i + 1))
    have h3 := ho _ (List.getElem_mem hi)
    have hic : (((i + 1 : Nat)) : Int) = (i : Int) + 1 := by omega
    rw [num_take hi] at h2
    have hp : (256 : Int) ^ (l.take (i + 1)).length ≤ 18446744073709551616 := pow256_le8 (by simp; omega)
    have dcor : IntKind.u64.wrap (IntKind.u64.wrap (num (l.take i) * 256) + IntKind.u64.wrap l[i]) = num (l.take (i + 1)) := by
      rw [wrap_u64 (n := num (l.take i) * 256) (by omega) (by omega), wrap_u64 (n := l[i]) (by omega) (by omega), wrap_u64 (by omega) (by omega), num_take hi]
    repeat (first | (with_reducible refine AW.seq ?_) | (with_reducible refine AW.block ?_) | (with_reducible refine AW.skip ?_) | (with_reducible refine AW.ret ?_) | (with_reducible refine AW.exit ?_) | (with_reducible refine AW.reg hT ?_) | ((with_reducible refine AW.cond_true ?_ ?_); · rfl) | ((with_reducible refine AW.cond_false ?_ ?_); · rfl) | simp (maxSteps := 3000000) (maxDischargeDepth := 12) only [push_cast,appendX,reduceIte,reduceCtorEq,Nat.reduceSub,Nat.reduceAdd,Nat.reduceMul,Nat.reduceLT,Nat.reduceLeDiff,Nat.reduceEqDiff,Nat.reduceBEq,Int.reduceToNat,Int.reduceLT,Int.reduceLE,Int.reduceEq,Int.reduceNeg,Try.results47,dc8,dci,dci2,dci0,dcg,dcw,dcor])
    refine ⟨l.length + 1 - (i + 1), by omega, i + 1, rfl, hi, rfl, by (simp only [push_cast, TellsL, tells_any, tells_refl, hic])⟩
  · have dci : decide ((i : Int) < (l.length : Int)) = false := by simp; omega
    have he : i = l.length := by omega
    subst he
    rw [List.take_length]
    repeat (first | (with_reducible refine AW.seq ?_) | (with_reducible refine AW.block ?_) | (with_reducible refine AW.skip ?_) | (with_reducible refine AW.ret ?_) | (with_reducible refine AW.exit ?_) | (with_reducible refine AW.reg hT ?_) | ((with_reducible refine AW.cond_true ?_ ?_); · rfl) | ((with_reducible refine AW.cond_false ?_ ?_); · rfl) | simp (maxSteps := 3000000) (maxDischargeDepth := 12) only [push_cast,appendX,reduceIte,reduceCtorEq,Nat.reduceSub,Nat.reduceAdd,Nat.reduceMul,Nat.reduceLT,Nat.reduceLeDiff,Nat.reduceEqDiff,Nat.reduceBEq,Int.reduceToNat,Int.reduceLT,Int.reduceLE,Int.reduceEq,Int.reduceNeg,Try.results47,dc8,dci])
/-- The lowest bytes, the lowest one first. -/
def lows (n : Nat) (u : Int) : List Int := (List.range n).map (digit u)
theorem lows_length (n : Nat) (u : Int) : (lows n u).length = n := by simp [lows]
theorem lows_get {n k : Nat} (h : k < n) (u : Int) : (lows n u)[k]'(by rw [lows_length]; exact h) = digit u k := by simp [lows]
theorem lows_succ (k : Nat) (u : Int) : lows (k + 1) u = lows k u ++ [digit u k] := by simp [lows, List.range_succ]
def dgI (n : Nat) (u : Int) (σ0 : Heap) (m : Nat) (ts : List DV) (σ : Heap) : Prop := ∃ k d, m = n + 1 - k ∧ k ≤ n ∧ Hold σ d 5 (bytesD (lows k u)) ∧ (∀ q ∈ tOf d, σ0.n ≤ q) ∧ Ext [] σ0 σ ∧ TellsL ts (.sc (.int .i64 n) :: .sc (.int .u64 (u / 256 ^ k)) :: .any :: .any :: .sc (.slice none 0 0) :: d :: .sc (.int .i64 k) :: .any :: .any :: .any :: .any :: .any :: .any :: .any :: .any :: .any :: .any :: .any :: .any :: .any :: .any :: .any :: .any :: .any :: .any :: .any :: .any :: .any :: .any :: .any :: .any :: .any :: .any :: .any :: .any :: .any :: [])
def dgJ (n : Nat) (u : Int) (p : DV) (σ0 : Heap) (m : Nat) (ts : List DV) (σ : Heap) : Prop := ∃ k d, m = n + 1 - k ∧ k ≤ n ∧ Hold σ d 5 (bytesD ((digits n u).take k)) ∧ (∀ q ∈ tOf d, σ0.n ≤ q) ∧ Ext [] σ0 σ ∧ TellsL ts (.sc (.int .i64 n) :: .any :: .any :: .any :: .sc (.slice none 0 0) :: p :: .any :: d :: .sc (.int .i64 ((n : Int) - 1 - k)) :: .any :: .any :: .any :: .any :: .any :: .any :: .any :: .any :: .any :: .any :: .any :: .any :: .any :: .any :: .any :: .any :: .any :: .any :: .any :: .any :: .any :: .any :: .any :: .any :: .any :: .any :: .any :: [])
theorem digits_own (σ : Heap) (n : Nat) (u : Int) (hn : n ≤ 8) (h0 : 0 ≤ u) (hu : u < 18446744073709551616) : ACalls Try.prog 44 [.sc (.int .i64 n), .sc (.int .u64 u)] σ (fun x σ' => Hold σ' x 5 (bytesD (digits n u)) ∧ (∀ q ∈ tOf x, σ.n ≤ q) ∧ Ext [] σ σ') := by
  have dcw2 : IntKind.i64.wrap ((n : Int) - 1) = (n : Int) - 1 := wrap_i64 (by omega) (by omega)
  refine ACalls.code hT Try.func44 rfl ?_
  simp only [Try.ntmps44, List.length_cons, List.length_nil, Nat.reduceSub, Nat.reduceAdd, List.replicate, List.cons_append, List.nil_append]
  repeat (first | (with_reducible refine AW.seq ?_) | (with_reducible refine AW.block ?_) | (with_reducible refine AW.skip ?_) | (with_reducible refine AW.ret ?_) | (with_reducible refine AW.exit ?_) | (with_reducible refine AW.reg hT ?_) | ((with_reducible refine AW.cond_true ?_ ?_); · rfl) | ((with_reducible refine AW.cond_false ?_ ?_); · rfl) | simp (maxSteps := 3000000) (maxDischargeDepth := 12) only [push_cast,appendX,reduceIte,reduceCtorEq,Nat.reduceSub,Nat.reduceAdd,Nat.reduceMul,Nat.reduceLT,Nat.reduceLeDiff,Nat.reduceEqDiff,Nat.reduceBEq,Int.reduceToNat,Int.reduceLT,Int.reduceLE,Int.reduceEq,Int.reduceNeg,Try.results44,dcw2])
  refine AW.loop (dgI n u σ) (m := n + 1) ⟨0, .sc (.slice none 0 0), rfl, Nat.zero_le _, Hold.nil _ _, by simp [tOf], Ext.refl _ _, by (simp only [push_cast, TellsL, tells_any, tells_refl, Int.pow_zero, Int.ediv_one])⟩ ?_
  rintro m ts σ3 ⟨k, d, rfl, hkn, hh, hnew, xt3, hts⟩
  refine AW.told hts ?_
  clear hts
  by_cases hk : k < n
  · have dck : decide ((k : Int) < (n : Int)) = true := by simp; omega
    have dcw : IntKind.i64.wrap ((k : Int) + 1) = (k : Int) + 1 := wrap_i64 (by omega) (by omega)
    have hp := pow_pos256 k
    have hq : 0 ≤ u / 256 ^ k := Int.ediv_nonneg h0 (by omega)
    have dcd : IntKind.u8.wrap ((u / 256 ^ k).tmod 256) = digit u k := by rw [Int.tmod_eq_emod_of_nonneg hq, wrap_u8_mod, digit]; omega
    have dce : IntKind.u64.wrap ((u / 256 ^ k).tdiv 256) = u / 256 ^ (k + 1) := by
      have h4 : u / 256 ^ k / 256 = u / (256 ^ k * 256) := Int.ediv_ediv_of_nonneg (by omega)
      have h5 : u / 256 ^ k ≤ u := Int.ediv_le_self _ h0
      rw [Int.tdiv_eq_ediv_of_nonneg hq, Int.pow_succ, ← h4]
      exact wrap_u64 (by omega) (by omega)
    have hic : (((k + 1 : Nat)) : Int) = (k : Int) + 1 := by omega
    obtain ⟨d3, σ4, dnapp, hh4, hnew4, xt4⟩ := hh.app1 (ty := 52) (x := [.sc (.int .u8 (digit u k))]) hnew xt3 rfl rfl (by decide) rfl (by simp [bytesD_length, lows_length]; omega)
    repeat (first | (with_reducible refine AW.seq ?_) | (with_reducible refine AW.block ?_) | (with_reducible refine AW.skip ?_) | (with_reducible refine AW.ret ?_) | (with_reducible refine AW.exit ?_) | (with_reducible refine AW.reg hT ?_) | ((with_reducible refine AW.cond_true ?_ ?_); · rfl) | ((with_reducible refine AW.cond_false ?_ ?_); · rfl) | simp (maxSteps := 3000000) (maxDischargeDepth := 12) only [push_cast,appendX,reduceIte,reduceCtorEq,Nat.reduceSub,Nat.reduceAdd,Nat.reduceMul,Nat.reduceLT,Nat.reduceLeDiff,Nat.reduceEqDiff,Nat.reduceBEq,Int.reduceToNat,Int.reduceLT,Int.reduceLE,Int.reduceEq,Int.reduceNeg,Try.results44,dcw2,xt3.2,xt3.ltT,xt3.leT,dck,dcw,dcd,dce,↓dnapp,xt4.2,xt4.ltT,xt4.leT])
    refine ⟨n + 1 - (k + 1), by omega, k + 1, d3, rfl, hk, ?_, hnew4, xt4, by (simp only [push_cast, TellsL, tells_any, tells_refl, hic])⟩
    rw [lows_succ, bytesD_append]; exact hh4
  · have dck : decide ((k : Int) < (n : Int)) = false := by simp; omega
    have he : k = n := by omega
    subst he
    repeat (first | (with_reducible refine AW.seq ?_) | (with_reducible refine AW.block ?_) | (with_reducible refine AW.skip ?_) | (with_reducible refine AW.ret ?_) | (with_reducible refine AW.exit ?_) | (with_reducible refine AW.reg hT ?_) | ((with_reducible refine AW.cond_true ?_ ?_); · rfl) | ((with_reducible refine AW.cond_false ?_ ?_); · rfl) | simp (maxSteps := 3000000) (maxDischargeDepth := 12) only [push_cast,appendX,reduceIte,reduceCtorEq,Nat.reduceSub,Nat.reduceAdd,Nat.reduceMul,Nat.reduceLT,Nat.reduceLeDiff,Nat.reduceEqDiff,Nat.reduceBEq,Int.reduceToNat,Int.reduceLT,Int.reduceLE,Int.reduceEq,Int.reduceNeg,Try.results44,dcw2,xt3.2,xt3.ltT,xt3.leT,dck])
    refine AW.loop (dgJ k u d σ3) (m := k + 1) ⟨0, .sc (.slice none 0 0), rfl, Nat.zero_le _, Hold.nil _ _, by simp [tOf], Ext.refl _ _, by (simp only [push_cast, TellsL, tells_any, tells_refl, Int.sub_zero])⟩ ?_
    rintro m ts σ5 ⟨j, d2, rfl, hjn, hh2, hnew2, xt5, hts⟩
    refine AW.told hts ?_
    clear hts
    by_cases hj : j < k
    · have dcj : decide (0 ≤ (k : Int) - 1 - (j : Int)) = true := by simp; omega
      have dcw5 : IntKind.i64.wrap ((k : Int) - 1 - (j : Int) - 1) = (k : Int) - 1 - ((j + 1 : Nat) : Int) := by rw [wrap_i64 (by omega) (by omega)]; omega
      have hdk : (digits k u).take (j + 1) = (digits k u).take j ++ [digit u (k - 1 - j)] := by rw [List.take_add_one, digits_get k u j hj]; rfl
      have hp := hh.frame xt5 (by simp)
      obtain ⟨t, full, rfl, gtt, hel⟩ := hp.at_ (i := k - 1 - j) (by rw [bytesD_length, lows_length]; omega)
      have dcel : full[k - 1 - j]? = some [.sc (.int .u8 (digit u (k - 1 - j)))] := by
        rw [hel]; simp [bytesD, lows]
      have dcn : ((k : Int) - 1 - (j : Int)).toNat = k - 1 - j := by omega
      have dcl : (bytesD (lows k u)).length = k := by rw [bytesD_length, lows_length]
      have dca : (0 ≤ (k : Int) - 1 - (j : Int)) = True := by simp; omega
      have dcb : ((k : Int) - 1 - (j : Int) < (k : Int)) = True := by simp; omega
      obtain ⟨d3, σ6, dnapp, hh4, hnew4, xt6⟩ := hh2.app1 (ty := 52) (x := [.sc (.int .u8 (digit u (k - 1 - j)))]) hnew2 xt5 rfl rfl (by decide) rfl (by have := digits_length k u; simp [bytesD_length]; omega)
      repeat (first | (with_reducible refine AW.seq ?_) | (with_reducible refine AW.block ?_) | (with_reducible refine AW.skip ?_) | (with_reducible refine AW.ret ?_) | (with_reducible refine AW.exit ?_) | (with_reducible refine AW.reg hT ?_) | ((with_reducible refine AW.cond_true ?_ ?_); · rfl) | ((with_reducible refine AW.cond_false ?_ ?_); · rfl) | simp (maxSteps := 3000000) (maxDischargeDepth := 12) only [push_cast,appendX,reduceIte,reduceCtorEq,Nat.reduceSub,Nat.reduceAdd,Nat.reduceMul,Nat.reduceLT,Nat.reduceLeDiff,Nat.reduceEqDiff,Nat.reduceBEq,Int.reduceToNat,Int.reduceLT,Int.reduceLE,Int.reduceEq,Int.reduceNeg,Try.results44,dcw2,xt3.2,xt3.ltT,xt3.leT,dck,xt5.2,xt5.ltT,xt5.leT,dcj,dcw5,gtt,Heap.lt gtt,dcel,dcn,dcl,dca,dcb,↓dnapp,xt6.2,xt6.ltT,xt6.leT])
      refine ⟨k + 1 - (j + 1), by omega, j + 1, d3, rfl, hj, ?_, hnew4, xt6, by (simp only [push_cast, TellsL, tells_any, tells_refl, dcl])⟩
      rw [hdk, bytesD_append]; exact hh4
    · have dcj : decide (0 ≤ (k : Int) - 1 - (j : Int)) = false := by simp; omega
      have dncl := hh2.cells
      have dnlf := hh2.leaf
      repeat (first | (with_reducible refine AW.seq ?_) | (with_reducible refine AW.block ?_) | (with_reducible refine AW.skip ?_) | (with_reducible refine AW.ret ?_) | (with_reducible refine AW.exit ?_) | (with_reducible refine AW.reg hT ?_) | ((with_reducible refine AW.cond_true ?_ ?_); · rfl) | ((with_reducible refine AW.cond_false ?_ ?_); · rfl) | simp (maxSteps := 3000000) (maxDischargeDepth := 12) only [push_cast,appendX,reduceIte,reduceCtorEq,Nat.reduceSub,Nat.reduceAdd,Nat.reduceMul,Nat.reduceLT,Nat.reduceLeDiff,Nat.reduceEqDiff,Nat.reduceBEq,Int.reduceToNat,Int.reduceLT,Int.reduceLE,Int.reduceEq,Int.reduceNeg,Try.results44,dcw2,xt3.2,xt3.ltT,xt3.leT,dck,xt5.2,xt5.ltT,xt5.leT,dcj,↓dncl,↓dnlf])
      refine ⟨?_, fun q hq => Nat.le_trans xt3.1 (hnew2 q hq), xt3.trans xt5⟩
      rwa [List.take_of_length_le (by rw [digits_length]; omega)] at hh2
theorem digits_ok (σ : Heap) (n : Nat) (u : Int) (hn : n ≤ 8) (h0 : 0 ≤ u) (hu : u < 18446744073709551616) : ACalls Try.prog 44 [.sc (.int .i64 n), .sc (.int .u64 u)] σ (fun x σ' => x = .imm (bytesD (digits n u)) ∧ Ext [] σ σ') :=
  ACalls.toImmH (e := 5) (digits_own σ n u hn h0 hu)
theorem toImmP {P : Program} {σ : Heap} {f : FuncId} {args : List DV} {e : TypeId} {els : List (List DV)} {y : Value} (h : ACalls P f args σ (fun x σ' => ∃ d, x = .tup [d, .sc y] ∧ Hold σ' d e els ∧ (∀ q ∈ tOf d, σ.n ≤ q) ∧ Ext [] σ σ')) : ACalls P f args σ (fun x σ' => x = .tup [.imm els, .sc y] ∧ Ext [] σ σ') := by
  refine ACalls.toImmG (e := e) (els := els) (fun d => .tup [d, .sc y]) ?_ ?_ h
  · intro t m es d d' h
    obtain ⟨h1, h2⟩ := FZL.spec (t := t) (m := m) (els := es) (l := [d, .sc y]) (l' := [d', .sc y]) ⟨h, .keep _, trivial⟩
    exact .tup h1 h2
  · exact Tells.tup ⟨Tells.nil, Tells.refl _, trivial⟩
theorem dcd_step {f : Nat} {l : List Int} (hl : l ≠ []) (hf : 0 < f) : dcd f l = if okR l then (dcd (f - 1) (st l 16).1).map (rdA l 8 :: ·) else none := by
  obtain ⟨g, rfl⟩ : ∃ g, f = g + 1 := ⟨f - 1, by omega⟩
  rw [dcd, if_neg hl]; rfl
theorem dcd_nil (f : Nat) : dcd f [] = some [] := by cases f <;> simp [dcd]
def pdI (b : List Int) (p : Nat) (σ0 : Heap) (m : Nat) (ts : List DV) (σ : Heap) : Prop := ∃ acc rest d, m = rest.length + 1 ∧ acc.length * 88 + rest.length = b.length ∧ Octs rest ∧ dcd 64 b = (dcd (64 - acc.length) rest).map (acc ++ ·) ∧ σ.get p = some (ROb rest 0) ∧ Hold σ d 40 (acc.map eA) ∧ (∀ q ∈ tOf d, σ0.n ≤ q) ∧ Ext [] σ0 σ ∧ TellsL ts (.any :: .any :: .any :: .any :: d :: .ptr p 0 0 1 :: .any :: .any :: .any :: .any :: .any :: .any :: .any :: .any :: .any :: .any :: .any :: .any :: .any :: .any :: .any :: .any :: .any :: .any :: .any :: .any :: .any :: .any :: [])
theorem pdecode_ok (σ : Heap) (b : List Int) (ho : Octs b) (hb : b.length ≤ 1000000) : ACalls Try.prog 27 [.imm (bytesD b)] σ (fun x σ' => x = .tup [.imm ((decT b).1.map eA), .sc (.int .i64 (decT b).2)] ∧ Ext [] σ σ') := by
  have dcml : (bytesD b).length = b.length := bytesD_length _
  refine toImmP (e := 40) ?_
  refine ACalls.code hT Try.func27 rfl ?_
  simp only [Try.ntmps27, List.length_cons, List.length_nil, Nat.reduceSub, Nat.reduceAdd, List.replicate, List.cons_append, List.nil_append]
  by_cases h4 : 5632 < b.length
  · have dc1 : decide (5632 < (b.length : Int)) = true := by simp; omega
    repeat (first | (with_reducible refine AW.seq ?_) | (with_reducible refine AW.block ?_) | (with_reducible refine AW.skip ?_) | (with_reducible refine AW.ret ?_) | (with_reducible refine AW.exit ?_) | (with_reducible refine AW.reg hT ?_) | ((with_reducible refine AW.cond_true ?_ ?_); · rfl) | ((with_reducible refine AW.cond_false ?_ ?_); · rfl) | simp (maxSteps := 3000000) (maxDischargeDepth := 12) only [push_cast,appendX,reduceIte,reduceCtorEq,Nat.reduceSub,Nat.reduceAdd,Nat.reduceMul,Nat.reduceLT,Nat.reduceLeDiff,Nat.reduceEqDiff,Nat.reduceBEq,Int.reduceToNat,Int.reduceLT,Int.reduceLE,Int.reduceEq,Int.reduceNeg,Try.results27,dcml,dc1])
    have : decT b = ([], 5) := by rw [decT, if_pos h4]
    exact ⟨_, by rw [this], by rw [this]; exact Hold.nil _ _, by simp [tOf], Ext.refl _ _⟩
  · have dc1 : decide (5632 < (b.length : Int)) = false := by simp; omega
    repeat (first | (with_reducible refine AW.seq ?_) | (with_reducible refine AW.block ?_) | (with_reducible refine AW.skip ?_) | (with_reducible refine AW.ret ?_) | (with_reducible refine AW.exit ?_) | (with_reducible refine AW.reg hT ?_) | ((with_reducible refine AW.cond_true ?_ ?_); · rfl) | ((with_reducible refine AW.cond_false ?_ ?_); · rfl) | simp (maxSteps := 3000000) (maxDischargeDepth := 12) only [push_cast,appendX,reduceIte,reduceCtorEq,Nat.reduceSub,Nat.reduceAdd,Nat.reduceMul,Nat.reduceLT,Nat.reduceLeDiff,Nat.reduceEqDiff,Nat.reduceBEq,Int.reduceToNat,Int.reduceLT,Int.reduceLE,Int.reduceEq,Int.reduceNeg,Try.results27,dcml,dc1])
    refine AOpsL.call (first := []) (cap := []) hT rfl rfl rfl fn39 rfl (ACalls.mono (rdnew_ok _ (.imm (bytesD b)) b (Src.imm _ _) hb) ?_)
    rintro x σ1 ⟨p, rfl, hpn, gtp, xt1⟩
    repeat (first | (with_reducible refine AW.seq ?_) | (with_reducible refine AW.block ?_) | (with_reducible refine AW.skip ?_) | (with_reducible refine AW.ret ?_) | (with_reducible refine AW.exit ?_) | (with_reducible refine AW.reg hT ?_) | ((with_reducible refine AW.cond_true ?_ ?_); · rfl) | ((with_reducible refine AW.cond_false ?_ ?_); · rfl) | simp (maxSteps := 3000000) (maxDischargeDepth := 12) only [push_cast,appendX,reduceIte,reduceCtorEq,Nat.reduceSub,Nat.reduceAdd,Nat.reduceMul,Nat.reduceLT,Nat.reduceLeDiff,Nat.reduceEqDiff,Nat.reduceBEq,Int.reduceToNat,Int.reduceLT,Int.reduceLE,Int.reduceEq,Int.reduceNeg,Try.results27,dcml,dc1,gtp,Heap.lt gtp,xt1.2,xt1.ltT,xt1.leT])
    refine AW.loop (pdI b p σ) (m := b.length + 1) ⟨[], b, .sc (.slice none 0 0), rfl, by simp, ho, by simp, gtp, Hold.nil _ _, by simp [tOf], xt1, by (simp only [push_cast, TellsL, tells_any, tells_refl])⟩ ?_
    clear gtp xt1
    rintro m ts σ3 ⟨acc, r, d, rfl, hsum, hor, hdec, gtr, hh, hnew, xt3, hts⟩
    refine AW.told hts ?_
    clear hts
    have hpd : p ∉ tOf d := hh.ne gtr (by simp [ROb])
    repeat (first | (with_reducible refine AW.seq ?_) | (with_reducible refine AW.block ?_) | (with_reducible refine AW.skip ?_) | (with_reducible refine AW.ret ?_) | (with_reducible refine AW.exit ?_) | (with_reducible refine AW.reg hT ?_) | ((with_reducible refine AW.cond_true ?_ ?_); · rfl) | ((with_reducible refine AW.cond_false ?_ ?_); · rfl) | simp (maxSteps := 3000000) (maxDischargeDepth := 12) only [push_cast,appendX,reduceIte,reduceCtorEq,Nat.reduceSub,Nat.reduceAdd,Nat.reduceMul,Nat.reduceLT,Nat.reduceLeDiff,Nat.reduceEqDiff,Nat.reduceBEq,Int.reduceToNat,Int.reduceLT,Int.reduceLE,Int.reduceEq,Int.reduceNeg,Try.results27,dcml,dc1,gtr,Heap.lt gtr,xt3.2,xt3.ltT,xt3.leT])
    refine AOpsL.call (first := []) (cap := []) hT rfl rfl rfl fn40 rfl (ACalls.mono (left_ok _ gtr) ?_)
    rintro x σ' ⟨rfl, rfl⟩
    by_cases hr0 : r = []
    · subst hr0
      have dcr : decide (0 < (([] : List Int).length : Int)) = false := rfl
      have dncl := hh.cells
      have dnlf := hh.leaf
      repeat (first | (with_reducible refine AW.seq ?_) | (with_reducible refine AW.block ?_) | (with_reducible refine AW.skip ?_) | (with_reducible refine AW.ret ?_) | (with_reducible refine AW.exit ?_) | (with_reducible refine AW.reg hT ?_) | ((with_reducible refine AW.cond_true ?_ ?_); · rfl) | ((with_reducible refine AW.cond_false ?_ ?_); · rfl) | simp (maxSteps := 3000000) (maxDischargeDepth := 12) only [push_cast,appendX,reduceIte,reduceCtorEq,Nat.reduceSub,Nat.reduceAdd,Nat.reduceMul,Nat.reduceLT,Nat.reduceLeDiff,Nat.reduceEqDiff,Nat.reduceBEq,Int.reduceToNat,Int.reduceLT,Int.reduceLE,Int.reduceEq,Int.reduceNeg,Try.results27,List.length_nil,Int.lt_irrefl,cast0,dcml,dc1,gtr,Heap.lt gtr,xt3.2,xt3.ltT,xt3.leT,dcr,↓dncl,↓dnlf])
      have : decT b = (acc, 0) := by rw [decT, if_neg h4, hdec, dcd_nil]; simp
      rw [this]
      exact ⟨d, rfl, hh, hnew, xt3⟩
    · have hrl : 0 < r.length := List.length_pos_iff.2 hr0
      have dcr : decide (0 < (r.length : Int)) = true := by simp; omega
      have hstep := dcd_step (f := 64 - acc.length) hr0 (by omega)
      rw [hstep] at hdec
      repeat (first | (with_reducible refine AW.seq ?_) | (with_reducible refine AW.block ?_) | (with_reducible refine AW.skip ?_) | (with_reducible refine AW.ret ?_) | (with_reducible refine AW.exit ?_) | (with_reducible refine AW.reg hT ?_) | ((with_reducible refine AW.cond_true ?_ ?_); · rfl) | ((with_reducible refine AW.cond_false ?_ ?_); · rfl) | simp (maxSteps := 3000000) (maxDischargeDepth := 12) only [push_cast,appendX,reduceIte,reduceCtorEq,Nat.reduceSub,Nat.reduceAdd,Nat.reduceMul,Nat.reduceLT,Nat.reduceLeDiff,Nat.reduceEqDiff,Nat.reduceBEq,Int.reduceToNat,Int.reduceLT,Int.reduceLE,Int.reduceEq,Int.reduceNeg,Try.results27,dcml,dc1,gtr,Heap.lt gtr,xt3.2,xt3.ltT,xt3.leT,dcr])
      refine AOpsL.call (first := []) (cap := []) hT rfl rfl rfl fn41 rfl (ACalls.mono (one_ok _ gtr hor) ?_)
      rintro x σ4 ⟨rfl, gt4, xt4⟩
      by_cases hok : okR r
      · have dcok : decide (okR r) = true := by simpa using hok
        rw [dcok]
        obtain ⟨h88, hst⟩ := okR_st hok
        rw [if_pos hok, hst] at hdec
        have hst2 : st r 16 = (r.drop 88, 0) := Prod.ext hst hok.2.2.1
        rw [hst2] at gt4
        have hh4 := hh.frame xt4 (by intro q hq h; exact hpd (by simp at h; rw [← h]; exact hq))
        have xt5 : Ext [] σ σ4 := xt3.then xt4 (by simp; omega)
        have hmp : (acc ++ [rdA r 8]).map eA = acc.map eA ++ [eA (rdA r 8)] := by simp
        clear xt3 xt4 gtr hh
        obtain ⟨d5, σ5, dnapp, hh5, hnew5, xt6, xt7⟩ := Hold.app1x (ty := 47) (x := eA (rdA r 8)) (σ0 := σ) (σ := (σ4.push ⟨[[.sc (.int .i64 0), .sc (.int .i64 0), .sc (.int .u64 0), .sc (.int .i64 0), .sc (.int .u32 0), .sc (.int .i64 0), .sc (.bool false), .sc (.int .u64 0), .sc (.int .u64 0), .sc (.int .u64 0), .sc (.int .u64 0), .sc (.int .u64 0), .sc (.int .u64 0), .sc (.int .u64 0), .sc (.int .u64 0)]], 40, true⟩).set σ4.n ⟨[eA (rdA r 8)], 40, true⟩) (hh4.frame (X := []) (by repeat (first | exact Ext.refl _ _ | assumption | refine Ext.push ?_ _ | ((refine Ext.set ?_ ?_ _); rotate_left; · (simp (maxSteps := 3000000) (maxDischargeDepth := 12) only [push_cast, appendX, Nat.reduceAdd, Nat.reduceEqDiff, Nat.reduceLT, Nat.reduceLeDiff, reduceIte, reduceCtorEq, dcml, dc1, dcr, gt4, Heap.lt gt4, dcok, xt5.2, xt5.ltT, xt5.leT])) | ((refine Ext.then1 (by assumption) ?_ ?_); rotate_left; · (intro p hp _; first | assumption | exact List.mem_cons_of_mem _ hp | (cases hp; done) | (simp at hp; subst hp; simp))))) (by simp)) hnew (by repeat (first | exact Ext.refl _ _ | assumption | refine Ext.push ?_ _ | ((refine Ext.set ?_ ?_ _); rotate_left; · (simp (maxSteps := 3000000) (maxDischargeDepth := 12) only [push_cast, appendX, Nat.reduceAdd, Nat.reduceEqDiff, Nat.reduceLT, Nat.reduceLeDiff, reduceIte, reduceCtorEq, dcml, dc1, dcr, gt4, Heap.lt gt4, dcok, xt5.2, xt5.ltT, xt5.leT])) | ((refine Ext.then1 (by assumption) ?_ ?_); rotate_left; · (intro p hp _; first | assumption | exact List.mem_cons_of_mem _ hp | (cases hp; done) | (simp at hp; subst hp; simp))))) rfl rfl (by decide) rfl (by simp; omega)
        have gt5 := xt7.get (p := p) (o := ROb (r.drop 88) 0) (by simp (maxSteps := 3000000) (maxDischargeDepth := 12) only [push_cast, appendX, Nat.reduceAdd, Nat.reduceEqDiff, Nat.reduceLT, Nat.reduceLeDiff, reduceIte, reduceCtorEq, dcml, dc1, dcr, gt4, Heap.lt gt4, dcok, xt5.2, xt5.ltT, xt5.leT, ↓dnapp, xt6.2, xt6.ltT, xt6.leT, xt7.2, xt7.ltT, xt7.leT]) hpd
        clear xt7
        generalize rdA r 8 = y at dnapp hdec hmp hh5 ⊢
        simp only [eA_eq, Heap.n_set, Heap.n_push] at dnapp
        simp only [eA_eq]
        repeat (first | (with_reducible refine AW.seq ?_) | (with_reducible refine AW.block ?_) | (with_reducible refine AW.skip ?_) | (with_reducible refine AW.ret ?_) | (with_reducible refine AW.exit ?_) | (with_reducible refine AW.reg hT ?_) | ((with_reducible refine AW.cond_true ?_ ?_); · rfl) | ((with_reducible refine AW.cond_false ?_ ?_); · rfl) | simp (maxSteps := 3000000) (maxDischargeDepth := 12) only [push_cast,appendX,reduceIte,reduceCtorEq,Nat.reduceSub,Nat.reduceAdd,Nat.reduceMul,Nat.reduceLT,Nat.reduceLeDiff,Nat.reduceEqDiff,Nat.reduceBEq,Int.reduceToNat,Int.reduceLT,Int.reduceLE,Int.reduceEq,Int.reduceNeg,Try.results27,dcml,dc1,dcr,gt4,Heap.lt gt4,dcok,xt5.2,xt5.ltT,xt5.leT,↓dnapp,xt6.2,xt6.ltT,xt6.leT,gt5,Heap.lt gt5])
        refine ⟨(r.drop 88).length + 1, by simp; omega, acc ++ [y], r.drop 88, d5, rfl, by simp; omega, hor.drop 88, ?_, gt5, by rw [hmp]; exact hh5, hnew5, xt6, by (simp only [push_cast, TellsL, tells_any, tells_refl])⟩
        rw [hdec, Option.map_map]
        congr 1
        · funext o; simp
        · congr 1; simp; omega
      · have dcok : decide (okR r) = false := by simpa using hok
        rw [dcok]
        rw [if_neg hok] at hdec
        generalize rdA r 8 = y
        simp only [eA_eq]
        repeat (first | (with_reducible refine AW.seq ?_) | (with_reducible refine AW.block ?_) | (with_reducible refine AW.skip ?_) | (with_reducible refine AW.ret ?_) | (with_reducible refine AW.exit ?_) | (with_reducible refine AW.reg hT ?_) | ((with_reducible refine AW.cond_true ?_ ?_); · rfl) | ((with_reducible refine AW.cond_false ?_ ?_); · rfl) | simp (maxSteps := 3000000) (maxDischargeDepth := 12) only [push_cast,appendX,reduceIte,reduceCtorEq,Nat.reduceSub,Nat.reduceAdd,Nat.reduceMul,Nat.reduceLT,Nat.reduceLeDiff,Nat.reduceEqDiff,Nat.reduceBEq,Int.reduceToNat,Int.reduceLT,Int.reduceLE,Int.reduceEq,Int.reduceNeg,Try.results27,dcml,dc1,dcr,gt4,Heap.lt gt4,dcok])
        have : decT b = ([], 5) := by rw [decT, if_neg h4, hdec]; rfl
        have xt5 : Ext [] σ σ4 := xt3.then xt4 (by simp; omega)
        clear xt3 xt4
        exact ⟨_, by rw [this], by rw [this]; exact Hold.nil _ _, by simp [tOf], by repeat (first | exact Ext.refl _ _ | assumption | refine Ext.push ?_ _ | ((refine Ext.set ?_ ?_ _); rotate_left; · (simp (maxSteps := 3000000) (maxDischargeDepth := 12) only [push_cast, appendX, Nat.reduceAdd, Nat.reduceEqDiff, Nat.reduceLT, Nat.reduceLeDiff, reduceIte, reduceCtorEq, dcml, dc1, dcr, gt4, Heap.lt gt4, dcok, xt5.2, xt5.ltT, xt5.leT])) | ((refine Ext.then1 (by assumption) ?_ ?_); rotate_left; · (intro p hp _; first | assumption | exact List.mem_cons_of_mem _ hp | (cases hp; done) | (simp at hp; subst hp; simp))))⟩
def laI (l : List Ad) (σ0 : Heap) (m : Nat) (ts : List DV) (σ : Heap) : Prop := ∃ i d, m = l.length + 1 - i ∧ i ≤ l.length ∧ Hold σ d 40 ((l.take i).map eA) ∧ (∀ q ∈ tOf d, σ0.n ≤ q) ∧ Ext [] σ0 σ ∧ TellsL ts (.any :: .any :: .any :: d :: .any :: .any :: .imm (l.map eA) :: .sc (.int .i64 l.length) :: .sc (.int .i64 i) :: .any :: .any :: .any :: .any :: .any :: .any :: .any :: .any :: .any :: .any :: [])
theorem lall_ok (σ : Heap) (l : List Ad) (hl : l.length ≤ 1000000) : ACalls Try.prog 25 [.imm (l.map eA)] σ (fun x σ' => x = .imm (l.map eA) ∧ Ext [] σ σ') := by
  have dcml : (l.map eA).length = l.length := by simp
  refine ACalls.toImmH (e := 40) ?_
  refine ACalls.code hT Try.func25 rfl ?_
  simp only [Try.ntmps25, List.length_cons, List.length_nil, Nat.reduceSub, Nat.reduceAdd, List.replicate, List.cons_append, List.nil_append]
  repeat (first | (with_reducible refine AW.seq ?_) | (with_reducible refine AW.block ?_) | (with_reducible refine AW.skip ?_) | (with_reducible refine AW.ret ?_) | (with_reducible refine AW.exit ?_) | (with_reducible refine AW.reg hT ?_) | ((with_reducible refine AW.cond_true ?_ ?_); · rfl) | ((with_reducible refine AW.cond_false ?_ ?_); · rfl) | simp (maxSteps := 3000000) (maxDischargeDepth := 12) only [push_cast,appendX,reduceIte,reduceCtorEq,Nat.reduceSub,Nat.reduceAdd,Nat.reduceMul,Nat.reduceLT,Nat.reduceLeDiff,Nat.reduceEqDiff,Nat.reduceBEq,Int.reduceToNat,Int.reduceLT,Int.reduceLE,Int.reduceEq,Int.reduceNeg,Try.results25,dcml])
  refine AW.loop (laI l σ) (m := l.length + 1) ⟨0, .sc (.slice none 0 0), rfl, Nat.zero_le _, Hold.nil _ _, by simp [tOf], Ext.refl _ _, by (simp only [push_cast, TellsL, tells_any, tells_refl])⟩ ?_
  rintro m ts σ3 ⟨i, d, rfl, hil, hh, hnew, xt3, hts⟩
  refine AW.told hts ?_
  clear hts
  by_cases hi : i < l.length
  · have dci : decide ((i : Int) < (l.length : Int)) = true := by simp; omega
    have dci2 : ((i : Int) < (l.length : Int)) = True := by simp; omega
    have dci0 : ((0 : Int) ≤ (i : Int)) = True := by simp
    obtain ⟨x, hx⟩ : ∃ x, x = l[i] := ⟨_, rfl⟩
    have dcel : (l.map eA)[i]? = some (eA x) := by rw [List.getElem?_map, List.getElem?_eq_getElem hi, hx]; rfl
    rw [eA_eq] at dcel
    have dcw : IntKind.i64.wrap ((i : Int) + 1) = (i : Int) + 1 := wrap_i64 (by omega) (by omega)
    have htk : (l.take (i + 1)).map eA = (l.take i).map eA ++ [eA x] := by rw [List.take_add_one, List.getElem?_eq_getElem hi, ← hx]; simp
    repeat (first | (with_reducible refine AW.seq ?_) | (with_reducible refine AW.block ?_) | (with_reducible refine AW.skip ?_) | (with_reducible refine AW.ret ?_) | (with_reducible refine AW.exit ?_) | (with_reducible refine AW.reg hT ?_) | ((with_reducible refine AW.cond_true ?_ ?_); · rfl) | ((with_reducible refine AW.cond_false ?_ ?_); · rfl) | simp (maxSteps := 3000000) (maxDischargeDepth := 12) only [push_cast,appendX,reduceIte,reduceCtorEq,Nat.reduceSub,Nat.reduceAdd,Nat.reduceMul,Nat.reduceLT,Nat.reduceLeDiff,Nat.reduceEqDiff,Nat.reduceBEq,Int.reduceToNat,Int.reduceLT,Int.reduceLE,Int.reduceEq,Int.reduceNeg,Try.results25,dcml,xt3.2,xt3.ltT,xt3.leT,dci,dci2,dci0,dcel,dcw])
    refine AOpsL.call (first := []) (cap := []) hT rfl rfl rfl fn15 rfl (ACalls.mono (theirs_ok _ x) ?_)
    rintro y σ4 ⟨rfl, xt4⟩
    have xt5 : Ext [] σ3 σ4 := by repeat (first | exact Ext.refl _ _ | assumption | refine Ext.push ?_ _ | ((refine Ext.set ?_ ?_ _); rotate_left; · (simp (maxSteps := 3000000) (maxDischargeDepth := 12) only [push_cast, appendX, Nat.reduceAdd, Nat.reduceEqDiff, Nat.reduceLT, Nat.reduceLeDiff, reduceIte, reduceCtorEq, dcml, xt3.2, xt3.ltT, xt3.leT, dci, dci2, dci0, dcel, dcw, xt4.2, xt4.ltT, xt4.leT])) | ((refine Ext.then1 (by assumption) ?_ ?_); rotate_left; · (intro p hp _; first | assumption | exact List.mem_cons_of_mem _ hp | (cases hp; done) | (simp at hp; subst hp; simp))))
    have xt6 := xt3.trans xt5
    obtain ⟨d5, σ5, dnapp, hh5, hnew5, xt7⟩ := Hold.app1 (ty := 47) (x := eA x) (hh.frame xt5 (by simp)) hnew xt6 rfl rfl (by decide) rfl (by simp; omega)
    simp only [eA_eq] at dnapp
    simp only [eA_eq]
    repeat (first | (with_reducible refine AW.seq ?_) | (with_reducible refine AW.block ?_) | (with_reducible refine AW.skip ?_) | (with_reducible refine AW.ret ?_) | (with_reducible refine AW.exit ?_) | (with_reducible refine AW.reg hT ?_) | ((with_reducible refine AW.cond_true ?_ ?_); · rfl) | ((with_reducible refine AW.cond_false ?_ ?_); · rfl) | simp (maxSteps := 3000000) (maxDischargeDepth := 12) only [push_cast,appendX,reduceIte,reduceCtorEq,Nat.reduceSub,Nat.reduceAdd,Nat.reduceMul,Nat.reduceLT,Nat.reduceLeDiff,Nat.reduceEqDiff,Nat.reduceBEq,Int.reduceToNat,Int.reduceLT,Int.reduceLE,Int.reduceEq,Int.reduceNeg,Try.results25,dcml,xt3.2,xt3.ltT,xt3.leT,dci,dci2,dci0,dcel,dcw,xt4.2,xt4.ltT,xt4.leT,xt5.2,xt5.ltT,xt5.leT,xt6.2,xt6.ltT,xt6.leT,↓dnapp,xt7.2,xt7.ltT,xt7.leT])
    exact ⟨l.length + 1 - (i + 1), by omega, i + 1, d5, rfl, hi, by rw [htk]; exact hh5, hnew5, xt7, by (simp only [push_cast, TellsL, tells_any, tells_refl])⟩
  · have dci : decide ((i : Int) < (l.length : Int)) = false := by simp; omega
    have he : i = l.length := by omega
    subst he
    rw [List.take_length] at hh
    have dncl := hh.cells
    have dnlf := hh.leaf
    repeat (first | (with_reducible refine AW.seq ?_) | (with_reducible refine AW.block ?_) | (with_reducible refine AW.skip ?_) | (with_reducible refine AW.ret ?_) | (with_reducible refine AW.exit ?_) | (with_reducible refine AW.reg hT ?_) | ((with_reducible refine AW.cond_true ?_ ?_); · rfl) | ((with_reducible refine AW.cond_false ?_ ?_); · rfl) | simp (maxSteps := 3000000) (maxDischargeDepth := 12) only [push_cast,appendX,reduceIte,reduceCtorEq,Nat.reduceSub,Nat.reduceAdd,Nat.reduceMul,Nat.reduceLT,Nat.reduceLeDiff,Nat.reduceEqDiff,Nat.reduceBEq,Int.reduceToNat,Int.reduceLT,Int.reduceLE,Int.reduceEq,Int.reduceNeg,Try.results25,dcml,xt3.2,xt3.ltT,xt3.leT,dci,↓dncl,↓dnlf])
    exact ⟨hh, hnew, xt3⟩
theorem bytsA_octs : ∀ l : List Ad, Octs (bytsA l)
  | [] => by simp [bytsA, Octs]
  | a :: l => by
    have h1 := bytsA_octs l
    have e : bytsA (a :: l) = bytA a ++ bytsA l := by simp [bytsA]
    rw [e, bytA_val]
    refine Octs.append ?_ h1
    intro d hd
    obtain ⟨j, _, hj⟩ := List.mem_flatMap.1 hd
    exact digits_octs _ _ d hj
theorem encT_octs (l : List Ad) : Octs (encT l).1 := by
  unfold encT
  split
  · simp [Octs]
  · split
    · exact bytsA_octs l
    · simp [Octs]
theorem encT_len (l : List Ad) : (encT l).1.length ≤ 88 * 64 := by
  unfold encT
  split
  · simp
  · split
    · rw [bytsA_length]; omega
    · simp
theorem back_ok (l : List Ad) (b : List Int) (h : l.length ≤ maxLen ∧ ∀ y ∈ l, wA y) (hb : b.length ≤ maxLen ∧ ∀ y ∈ b, (Lit.int .u8 y).wf = true) (hy : b.length * 1 ≤ 140737488351232) : ACalls Try.prog 9 [.imm (l.map eA), .imm (b.map (fun n : Int => [DV.sc (.int .u8 n)]))] ⟨[]⟩ (fun x _ => x = .sc (.bool true)) := by
  generalize (⟨[]⟩ : Heap) = σ
  have ho : Octs b := fun d hd => by have := wf_u8 (hb.2 d hd); omega
  have dcb : (bytesD b).length = b.length := bytesD_length _
  have dcml : (l.map eA).length = l.length := by simp
  show ACalls Try.prog 9 [.imm (l.map eA), .imm (bytesD b)] σ (fun x _ => x = .sc (.bool true))
  refine ACalls.code hT Try.func9 rfl ?_
  simp only [Try.ntmps9, List.length_cons, List.length_nil, Nat.reduceSub, Nat.reduceAdd, List.replicate, List.cons_append, List.nil_append]
  repeat (first | (with_reducible refine AW.seq ?_) | (with_reducible refine AW.block ?_) | (with_reducible refine AW.skip ?_) | (with_reducible refine AW.ret ?_) | (with_reducible refine AW.exit ?_) | (with_reducible refine AW.reg hT ?_) | ((with_reducible refine AW.cond_true ?_ ?_); · rfl) | ((with_reducible refine AW.cond_false ?_ ?_); · rfl) | simp (maxSteps := 3000000) (maxDischargeDepth := 12) only [push_cast,appendX,reduceIte,reduceCtorEq,Nat.reduceSub,Nat.reduceAdd,Nat.reduceMul,Nat.reduceLT,Nat.reduceLeDiff,Nat.reduceEqDiff,Nat.reduceBEq,Int.reduceToNat,Int.reduceLT,Int.reduceLE,Int.reduceEq,Int.reduceNeg,Try.results9,dcb,dcml])
  refine AOpsL.call (first := []) (cap := []) hT rfl rfl rfl fn10 rfl (ACalls.mono (alive_ok _) ?_)
  rintro y σ1 ⟨rfl, xt1⟩
  by_cases h1 : 100 < l.length
  · have dc1 : decide (100 < (l.length : Int)) = true := by simp; omega
    repeat (first | (with_reducible refine AW.seq ?_) | (with_reducible refine AW.block ?_) | (with_reducible refine AW.skip ?_) | (with_reducible refine AW.ret ?_) | (with_reducible refine AW.exit ?_) | (with_reducible refine AW.reg hT ?_) | ((with_reducible refine AW.cond_true ?_ ?_); · rfl) | ((with_reducible refine AW.cond_false ?_ ?_); · rfl) | simp (maxSteps := 3000000) (maxDischargeDepth := 12) only [push_cast,appendX,reduceIte,reduceCtorEq,Nat.reduceSub,Nat.reduceAdd,Nat.reduceMul,Nat.reduceLT,Nat.reduceLeDiff,Nat.reduceEqDiff,Nat.reduceBEq,Int.reduceToNat,Int.reduceLT,Int.reduceLE,Int.reduceEq,Int.reduceNeg,Try.results9,dcb,dcml,xt1.2,xt1.ltT,xt1.leT,dc1])
  have dc1 : decide (100 < (l.length : Int)) = false := by simp; omega
  by_cases h2 : 9000 < b.length
  · have dc2 : decide (9000 < (b.length : Int)) = true := by simp; omega
    repeat (first | (with_reducible refine AW.seq ?_) | (with_reducible refine AW.block ?_) | (with_reducible refine AW.skip ?_) | (with_reducible refine AW.ret ?_) | (with_reducible refine AW.exit ?_) | (with_reducible refine AW.reg hT ?_) | ((with_reducible refine AW.cond_true ?_ ?_); · rfl) | ((with_reducible refine AW.cond_false ?_ ?_); · rfl) | simp (maxSteps := 3000000) (maxDischargeDepth := 12) only [push_cast,appendX,reduceIte,reduceCtorEq,Nat.reduceSub,Nat.reduceAdd,Nat.reduceMul,Nat.reduceLT,Nat.reduceLeDiff,Nat.reduceEqDiff,Nat.reduceBEq,Int.reduceToNat,Int.reduceLT,Int.reduceLE,Int.reduceEq,Int.reduceNeg,Try.results9,dcb,dcml,xt1.2,xt1.ltT,xt1.leT,dc1,dc2])
  have dc2 : decide (9000 < (b.length : Int)) = false := by simp; omega
  have hoe := encT_octs l
  have hle := encT_len l
  repeat ((fail_if_success (with_reducible refine AW.at1 (id := 5) ?_)); (fail_if_success (with_reducible refine AW.at2 (id := 5) ?_)); first | (with_reducible refine AW.seq ?_) | (with_reducible refine AW.block ?_) | (with_reducible refine AW.skip ?_) | (with_reducible refine AW.ret ?_) | (with_reducible refine AW.exit ?_) | (with_reducible refine AW.reg hT ?_) | ((with_reducible refine AW.cond_true ?_ ?_); · rfl) | ((with_reducible refine AW.cond_false ?_ ?_); · rfl) | simp (maxSteps := 3000000) (maxDischargeDepth := 12) only [push_cast,appendX,reduceIte,reduceCtorEq,Nat.reduceSub,Nat.reduceAdd,Nat.reduceMul,Nat.reduceLT,Nat.reduceLeDiff,Nat.reduceEqDiff,Nat.reduceBEq,Int.reduceToNat,Int.reduceLT,Int.reduceLE,Int.reduceEq,Int.reduceNeg,Try.results9,dcb,dcml,xt1.2,xt1.ltT,xt1.leT,dc1,dc2])
  refine AW.seqK (fun ts _ => TellsL ts (.any :: .imm (bytesD b) :: .any :: .any :: .any :: .any :: .any :: .any :: .any :: .any :: .any :: .any :: .any :: .any :: .any :: .any :: .any :: .any :: .any :: .any :: .any :: .any :: .any :: .any :: .any :: .any :: .any :: .any :: .any :: .any :: .any :: .any :: .any :: .any :: .any :: .any :: .any :: .any :: .any :: .any :: .any :: .any :: .any :: .any :: .any :: .any :: .any :: .any :: .any :: .any :: .any :: .any :: .any :: .any :: .any :: .any :: .any :: .any :: .any :: .any :: .any :: .any :: .any :: .any :: .any :: .any :: [])) ?_ ?_
  · repeat (first | (with_reducible refine AW.seq ?_) | (with_reducible refine AW.block ?_) | (with_reducible refine AW.skip ?_) | (with_reducible refine AW.ret ?_) | (with_reducible refine AW.exit ?_) | (with_reducible refine AW.reg hT ?_) | ((with_reducible refine AW.cond_true ?_ ?_); · rfl) | ((with_reducible refine AW.cond_false ?_ ?_); · rfl) | simp (maxSteps := 3000000) (maxDischargeDepth := 12) only [push_cast,appendX,reduceIte,reduceCtorEq,Nat.reduceSub,Nat.reduceAdd,Nat.reduceMul,Nat.reduceLT,Nat.reduceLeDiff,Nat.reduceEqDiff,Nat.reduceBEq,Int.reduceToNat,Int.reduceLT,Int.reduceLE,Int.reduceEq,Int.reduceNeg,Try.results9,dcb,dcml,xt1.2,xt1.ltT,xt1.leT,dc1,dc2])
    refine AOpsL.call (first := []) (cap := []) hT rfl rfl rfl fn25 rfl (ACalls.mono (lall_ok _ l (by omega)) ?_)
    rintro y σ2 ⟨rfl, xt2⟩
    repeat (first | (with_reducible refine AW.seq ?_) | (with_reducible refine AW.block ?_) | (with_reducible refine AW.skip ?_) | (with_reducible refine AW.ret ?_) | (with_reducible refine AW.exit ?_) | (with_reducible refine AW.reg hT ?_) | ((with_reducible refine AW.cond_true ?_ ?_); · rfl) | ((with_reducible refine AW.cond_false ?_ ?_); · rfl) | simp (maxSteps := 3000000) (maxDischargeDepth := 12) only [push_cast,appendX,reduceIte,reduceCtorEq,Nat.reduceSub,Nat.reduceAdd,Nat.reduceMul,Nat.reduceLT,Nat.reduceLeDiff,Nat.reduceEqDiff,Nat.reduceBEq,Int.reduceToNat,Int.reduceLT,Int.reduceLE,Int.reduceEq,Int.reduceNeg,Try.results9,dcb,dcml,xt1.2,xt1.ltT,xt1.leT,dc1,dc2,xt2.2,xt2.ltT,xt2.leT])
    refine AOpsL.call (first := []) (cap := []) hT rfl rfl rfl fn24 rfl (ACalls.mono (tencode_ok _ l h.2) ?_)
    rintro y σ3 ⟨rfl, xt3⟩
    by_cases he : (encT l).2 = 0
    · have dce : ((encT l).2 == 0) = true := by simpa using he
      have hbk := decT_enc h.2 he
      repeat (first | (with_reducible refine AW.seq ?_) | (with_reducible refine AW.block ?_) | (with_reducible refine AW.skip ?_) | (with_reducible refine AW.ret ?_) | (with_reducible refine AW.exit ?_) | (with_reducible refine AW.reg hT ?_) | ((with_reducible refine AW.cond_true ?_ ?_); · rfl) | ((with_reducible refine AW.cond_false ?_ ?_); · rfl) | simp (maxSteps := 3000000) (maxDischargeDepth := 12) only [push_cast,appendX,reduceIte,reduceCtorEq,Nat.reduceSub,Nat.reduceAdd,Nat.reduceMul,Nat.reduceLT,Nat.reduceLeDiff,Nat.reduceEqDiff,Nat.reduceBEq,Int.reduceToNat,Int.reduceLT,Int.reduceLE,Int.reduceEq,Int.reduceNeg,Try.results9,dcb,dcml,xt1.2,xt1.ltT,xt1.leT,dc1,dc2,xt2.2,xt2.ltT,xt2.leT,xt3.2,xt3.ltT,xt3.leT,dce])
      refine AOpsL.call (first := []) (cap := []) hT rfl rfl rfl fn27 rfl (ACalls.mono (pdecode_ok _ (encT l).1 hoe (by omega)) ?_)
      rw [hbk]
      rintro y σ4 ⟨rfl, xt4⟩
      repeat (first | (with_reducible refine AW.seq ?_) | (with_reducible refine AW.block ?_) | (with_reducible refine AW.skip ?_) | (with_reducible refine AW.ret ?_) | (with_reducible refine AW.exit ?_) | (with_reducible refine AW.reg hT ?_) | ((with_reducible refine AW.cond_true ?_ ?_); · rfl) | ((with_reducible refine AW.cond_false ?_ ?_); · rfl) | simp (maxSteps := 3000000) (maxDischargeDepth := 12) only [push_cast,appendX,reduceIte,reduceCtorEq,Nat.reduceSub,Nat.reduceAdd,Nat.reduceMul,Nat.reduceLT,Nat.reduceLeDiff,Nat.reduceEqDiff,Nat.reduceBEq,Int.reduceToNat,Int.reduceLT,Int.reduceLE,Int.reduceEq,Int.reduceNeg,Try.results9,dcb,dcml,xt1.2,xt1.ltT,xt1.leT,dc1,dc2,xt2.2,xt2.ltT,xt2.leT,xt3.2,xt3.ltT,xt3.leT,dce,xt4.2,xt4.ltT,xt4.leT])
      refine AOpsL.call (first := []) (cap := []) hT rfl rfl rfl fn18 rfl (ACalls.mono (ours_ok _ l (by omega)) ?_)
      rintro y σ5 ⟨rfl, xt5⟩
      repeat (first | (with_reducible refine AW.seq ?_) | (with_reducible refine AW.block ?_) | (with_reducible refine AW.skip ?_) | (with_reducible refine AW.ret ?_) | (with_reducible refine AW.exit ?_) | (with_reducible refine AW.reg hT ?_) | ((with_reducible refine AW.cond_true ?_ ?_); · rfl) | ((with_reducible refine AW.cond_false ?_ ?_); · rfl) | simp (maxSteps := 3000000) (maxDischargeDepth := 12) only [push_cast,appendX,reduceIte,reduceCtorEq,Nat.reduceSub,Nat.reduceAdd,Nat.reduceMul,Nat.reduceLT,Nat.reduceLeDiff,Nat.reduceEqDiff,Nat.reduceBEq,Int.reduceToNat,Int.reduceLT,Int.reduceLE,Int.reduceEq,Int.reduceNeg,Try.results9,dcb,dcml,xt1.2,xt1.ltT,xt1.leT,dc1,dc2,xt2.2,xt2.ltT,xt2.leT,xt3.2,xt3.ltT,xt3.leT,dce,xt4.2,xt4.ltT,xt4.leT,xt5.2,xt5.ltT,xt5.leT])
      refine AOpsL.call (first := []) (cap := []) hT rfl rfl rfl fn17 rfl (ACalls.mono (same_ok _ l (by omega)) ?_)
      rintro y σ6 ⟨rfl, xt6⟩
      repeat (first | (with_reducible refine AW.seq ?_) | (with_reducible refine AW.block ?_) | (with_reducible refine AW.skip ?_) | (with_reducible refine AW.ret ?_) | (with_reducible refine AW.exit ?_) | (with_reducible refine AW.reg hT ?_) | ((with_reducible refine AW.cond_true ?_ ?_); · rfl) | ((with_reducible refine AW.cond_false ?_ ?_); · rfl) | simp (maxSteps := 3000000) (maxDischargeDepth := 12) only [push_cast,appendX,reduceIte,reduceCtorEq,Nat.reduceSub,Nat.reduceAdd,Nat.reduceMul,Nat.reduceLT,Nat.reduceLeDiff,Nat.reduceEqDiff,Nat.reduceBEq,Int.reduceToNat,Int.reduceLT,Int.reduceLE,Int.reduceEq,Int.reduceNeg,Try.results9,dcb,dcml,xt1.2,xt1.ltT,xt1.leT,dc1,dc2,xt2.2,xt2.ltT,xt2.leT,xt3.2,xt3.ltT,xt3.leT,dce,xt4.2,xt4.ltT,xt4.leT,xt5.2,xt5.ltT,xt5.leT,xt6.2,xt6.ltT,xt6.leT])
      (simp only [push_cast, TellsL, tells_any, tells_refl])
    · have dce : ((encT l).2 == 0) = false := by simpa using he
      repeat (first | (with_reducible refine AW.seq ?_) | (with_reducible refine AW.block ?_) | (with_reducible refine AW.skip ?_) | (with_reducible refine AW.ret ?_) | (with_reducible refine AW.exit ?_) | (with_reducible refine AW.reg hT ?_) | ((with_reducible refine AW.cond_true ?_ ?_); · rfl) | ((with_reducible refine AW.cond_false ?_ ?_); · rfl) | simp (maxSteps := 3000000) (maxDischargeDepth := 12) only [push_cast,appendX,reduceIte,reduceCtorEq,Nat.reduceSub,Nat.reduceAdd,Nat.reduceMul,Nat.reduceLT,Nat.reduceLeDiff,Nat.reduceEqDiff,Nat.reduceBEq,Int.reduceToNat,Int.reduceLT,Int.reduceLE,Int.reduceEq,Int.reduceNeg,Try.results9,dcb,dcml,xt1.2,xt1.ltT,xt1.leT,dc1,dc2,xt2.2,xt2.ltT,xt2.leT,xt3.2,xt3.ltT,xt3.leT,dce])
      (simp only [push_cast, TellsL, tells_any, tells_refl])
  · rintro ts σ2 hts
    refine AW.told hts ?_
    repeat (first | (with_reducible refine AW.seq ?_) | (with_reducible refine AW.block ?_) | (with_reducible refine AW.skip ?_) | (with_reducible refine AW.ret ?_) | (with_reducible refine AW.exit ?_) | (with_reducible refine AW.reg hT ?_) | ((with_reducible refine AW.cond_true ?_ ?_); · rfl) | ((with_reducible refine AW.cond_false ?_ ?_); · rfl) | simp (maxSteps := 3000000) (maxDischargeDepth := 12) only [push_cast,appendX,reduceIte,reduceCtorEq,Nat.reduceSub,Nat.reduceAdd,Nat.reduceMul,Nat.reduceLT,Nat.reduceLeDiff,Nat.reduceEqDiff,Nat.reduceBEq,Int.reduceToNat,Int.reduceLT,Int.reduceLE,Int.reduceEq,Int.reduceNeg,Try.results9,dcb,dcml,xt1.2,xt1.ltT,xt1.leT,dc1,dc2])
    refine AOpsL.call (first := []) (cap := []) hT rfl rfl rfl fn27 rfl (ACalls.mono (pdecode_ok _ b ho (by omega)) ?_)
    rintro y σ3 ⟨rfl, xt3⟩
    by_cases he : (decT b).2 = 0
    · have dce : ((decT b).2 == 0) = true := by simpa using he
      obtain ⟨hbk, _, hl2⟩ := decT_ok ho he
      have hwd : ∀ a ∈ (decT b).1, wA a := by
        have h2 := decT_wf ho
        exact h2
      repeat (first | (with_reducible refine AW.seq ?_) | (with_reducible refine AW.block ?_) | (with_reducible refine AW.skip ?_) | (with_reducible refine AW.ret ?_) | (with_reducible refine AW.exit ?_) | (with_reducible refine AW.reg hT ?_) | ((with_reducible refine AW.cond_true ?_ ?_); · rfl) | ((with_reducible refine AW.cond_false ?_ ?_); · rfl) | simp (maxSteps := 3000000) (maxDischargeDepth := 12) only [push_cast,appendX,reduceIte,reduceCtorEq,Nat.reduceSub,Nat.reduceAdd,Nat.reduceMul,Nat.reduceLT,Nat.reduceLeDiff,Nat.reduceEqDiff,Nat.reduceBEq,Int.reduceToNat,Int.reduceLT,Int.reduceLE,Int.reduceEq,Int.reduceNeg,Try.results9,dcb,dcml,xt1.2,xt1.ltT,xt1.leT,dc1,dc2,xt3.2,xt3.ltT,xt3.leT,dce])
      refine AOpsL.call (first := []) (cap := []) hT rfl rfl rfl fn24 rfl (ACalls.mono (tencode_ok _ _ hwd) ?_)
      rw [hbk]
      rintro y σ4 ⟨rfl, xt4⟩
      repeat (first | (with_reducible refine AW.seq ?_) | (with_reducible refine AW.block ?_) | (with_reducible refine AW.skip ?_) | (with_reducible refine AW.ret ?_) | (with_reducible refine AW.exit ?_) | (with_reducible refine AW.reg hT ?_) | ((with_reducible refine AW.cond_true ?_ ?_); · rfl) | ((with_reducible refine AW.cond_false ?_ ?_); · rfl) | simp (maxSteps := 3000000) (maxDischargeDepth := 12) only [push_cast,appendX,reduceIte,reduceCtorEq,Nat.reduceSub,Nat.reduceAdd,Nat.reduceMul,Nat.reduceLT,Nat.reduceLeDiff,Nat.reduceEqDiff,Nat.reduceBEq,Int.reduceToNat,Int.reduceLT,Int.reduceLE,Int.reduceEq,Int.reduceNeg,Try.results9,dcb,dcml,xt1.2,xt1.ltT,xt1.leT,dc1,dc2,xt3.2,xt3.ltT,xt3.leT,dce,xt4.2,xt4.ltT,xt4.leT])
    · have dce : ((decT b).2 == 0) = false := by simpa using he
      repeat (first | (with_reducible refine AW.seq ?_) | (with_reducible refine AW.block ?_) | (with_reducible refine AW.skip ?_) | (with_reducible refine AW.ret ?_) | (with_reducible refine AW.exit ?_) | (with_reducible refine AW.reg hT ?_) | ((with_reducible refine AW.cond_true ?_ ?_); · rfl) | ((with_reducible refine AW.cond_false ?_ ?_); · rfl) | simp (maxSteps := 3000000) (maxDischargeDepth := 12) only [push_cast,appendX,reduceIte,reduceCtorEq,Nat.reduceSub,Nat.reduceAdd,Nat.reduceMul,Nat.reduceLT,Nat.reduceLeDiff,Nat.reduceEqDiff,Nat.reduceBEq,Int.reduceToNat,Int.reduceLT,Int.reduceLE,Int.reduceEq,Int.reduceNeg,Try.results9,dcb,dcml,xt1.2,xt1.ltT,xt1.leT,dc1,dc2,xt3.2,xt3.ltT,xt3.leT,dce])
def acc0 (a : Ad) : List Int := [a.f0.f0, a.f0.f1, upA a, 0]
def acc4 (a : Ad) : List Int := acc0 a ++ digits 4 a.f1 ++ digits 8 a.f0.f2 ++ digits 4 a.f0.f3 ++ digits 4 a.f0.f4
def bytP (a : Ad) (k : Nat) : List Int := acc4 a ++ (List.range k).flatMap (fun j => digits 8 (nth a (j + 1)))
theorem bytP_succ (a : Ad) (k : Nat) : bytP a (k + 1) = bytP a k ++ digits 8 (nth a (k + 1)) := by simp [bytP, List.range_succ]
theorem digits_one {u : Int} (h0 : 0 ≤ u) (h1 : u < 256) : digits 1 u = [u] := by
  simp only [digits, digit, List.cons.injEq, and_true]
  simp; omega
theorem bytP_len (a : Ad) (k : Nat) : (bytP a k).length = 24 + 8 * k := by
  have : ∀ k : Nat, ((List.range k).flatMap (fun j => digits 8 (nth a (j + 1)))).length = 8 * k := by
    intro k
    induction k with
    | zero => rfl
    | succ k ih => simp only [List.range_succ, List.flatMap_append, List.length_append, ih, List.flatMap_cons, List.flatMap_nil, List.append_nil, digits_length]; omega
  simp only [bytP, acc4, acc0, List.length_append, this, digits_length, List.length_cons, List.length_nil]
theorem bytA_bytP {a : Ad} (hm : mayA a) : bytA a = bytP a 8 := by
  obtain ⟨⟨g1, g2, g3, g4, _⟩, _⟩ := hm
  have hu : 0 ≤ upA a ∧ upA a < 256 := by unfold upA; split <;> omega
  simp only [bytA, digsB, nums, numsB, List.flatMap_append, List.flatMap_cons, List.flatMap_nil, List.append_nil, bytP, acc4, acc0, List.flatMap_map]
  rw [digits_one g1 (by omega), digits_one g3 (by omega), digits_one hu.1 hu.2, digits_one (u := 0) (by omega) (by omega)]
  simp
def rbI (a : Ad) (p : Nat) (σ0 : Heap) (m : Nat) (ts : List DV) (σ : Heap) : Prop := ∃ (k : Nat) (z : Int) (d : DV), m = 9 - k ∧ k ≤ 8 ∧ z = k ∧ σ.get p = some ⟨[eA a], 42, true⟩ ∧ Hold σ d 5 (bytesD (bytP a k)) ∧ (∀ q ∈ tOf d, σ0.n ≤ q) ∧ Ext [] σ0 σ ∧ TellsL ts (.any :: .ptr p 0 0 1 :: .any :: .any :: d :: .sc (.int .i64 z) :: .any :: .any :: .any :: .any :: .any :: .any :: .any :: .any :: .any :: .any :: .any :: .any :: .any :: .any :: .any :: .any :: .any :: .any :: .any :: .any :: .any :: .any :: .any :: .any :: .any :: .any :: .any :: .any :: .any :: .any :: .any :: .any :: .any :: .any :: .any :: .any :: .any :: .any :: .any :: .any :: .any :: .any :: .any :: .any :: .any :: .any :: .any :: .any :: .any :: .any :: [])
theorem rbytes_ok (σ : Heap) (a : Ad) (hw : wA a) (hm : mayA a) : ACalls Try.prog 38 [.agg (eA a)] σ (fun x σ' => x = .imm (bytesD (bytA a)) ∧ Ext [] σ σ') := by
  rw [bytA_bytP hm]
  obtain ⟨⟨g1, g2, g3, g4, g5, g6, g7⟩, g8, g9, _⟩ := hm
  have hn8 := nth_wf a hw
  have w3 := wf_u64 hw.1.2.2.1
  have w5 := wf_u32 hw.1.2.2.2.2
  have dcw0 : IntKind.u8.wrap a.f0.f0 = a.f0.f0 := wrap_u8 g1 (by omega)
  have dcw1 : IntKind.u8.wrap a.f0.f1 = a.f0.f1 := wrap_u8 g3 (by omega)
  have dcw2 : IntKind.u64.wrap a.f1 = a.f1 := wrap_u64 g8 (by omega)
  have dcw3 : IntKind.u64.wrap a.f0.f3 = a.f0.f3 := wrap_u64 (by omega) (by omega)
  have dcw4 : IntKind.u64.wrap a.f0.f4 = a.f0.f4 := wrap_u64 (by omega) (by omega)
  refine ACalls.toImmH (e := 5) ?_
  simp only [eA_eq a]
  refine ACalls.code hT Try.func38 rfl ?_
  simp only [Try.ntmps38, List.length_cons, List.length_nil, Nat.reduceSub, Nat.reduceAdd, List.replicate, List.cons_append, List.nil_append]
  repeat ((fail_if_success (with_reducible refine AW.at1 (id := 2) ?_)); (fail_if_success (with_reducible refine AW.at2 (id := 2) ?_)); first | (with_reducible refine AW.seq ?_) | (with_reducible refine AW.block ?_) | (with_reducible refine AW.skip ?_) | (with_reducible refine AW.ret ?_) | (with_reducible refine AW.exit ?_) | (with_reducible refine AW.reg hT ?_) | ((with_reducible refine AW.cond_true ?_ ?_); · rfl) | ((with_reducible refine AW.cond_false ?_ ?_); · rfl) | simp (maxSteps := 3000000) (maxDischargeDepth := 12) only [push_cast,appendX,reduceIte,reduceCtorEq,Nat.reduceSub,Nat.reduceAdd,Nat.reduceMul,Nat.reduceLT,Nat.reduceLeDiff,Nat.reduceEqDiff,Nat.reduceBEq,Int.reduceToNat,Int.reduceLT,Int.reduceLE,Int.reduceEq,Int.reduceNeg,Try.results38,dcw0,dcw1,dcw2,dcw3,dcw4])
  refine AW.seqK (fun ts σ1 => σ1.get σ.n = some ⟨[eA a], 42, true⟩ ∧ Ext [] σ σ1 ∧ TellsL ts (.any :: .ptr σ.n 0 0 1 :: .any :: .sc (.int .u8 (upA a)) :: .any :: .any :: .any :: .any :: .any :: .any :: .any :: .any :: .any :: .any :: .any :: .any :: .any :: .any :: .any :: .any :: .any :: .any :: .any :: .any :: .any :: .any :: .any :: .any :: .any :: .any :: .any :: .any :: .any :: .any :: .any :: .any :: .any :: .any :: .any :: .any :: .any :: .any :: .any :: .any :: .any :: .any :: .any :: .any :: .any :: .any :: .any :: .any :: .any :: .any :: .any :: .any :: [])) ?_ ?_
  · cases hu : a.f2 with
    | true =>
      have hua : upA a = 1 := by simp [upA, hu]
      rw [hua]
      repeat (first | (with_reducible refine AW.seq ?_) | (with_reducible refine AW.block ?_) | (with_reducible refine AW.skip ?_) | (with_reducible refine AW.ret ?_) | (with_reducible refine AW.exit ?_) | (with_reducible refine AW.reg hT ?_) | ((with_reducible refine AW.cond_true ?_ ?_); · rfl) | ((with_reducible refine AW.cond_false ?_ ?_); · rfl) | simp (maxSteps := 3000000) (maxDischargeDepth := 12) only [push_cast,appendX,reduceIte,reduceCtorEq,Nat.reduceSub,Nat.reduceAdd,Nat.reduceMul,Nat.reduceLT,Nat.reduceLeDiff,Nat.reduceEqDiff,Nat.reduceBEq,Int.reduceToNat,Int.reduceLT,Int.reduceLE,Int.reduceEq,Int.reduceNeg,Try.results38,dcw0,dcw1,dcw2,dcw3,dcw4])
      exact ⟨by simp (maxSteps := 3000000) (maxDischargeDepth := 12) only [push_cast, appendX, Nat.reduceAdd, Nat.reduceEqDiff, Nat.reduceLT, Nat.reduceLeDiff, reduceIte, reduceCtorEq, eA_eq, hu, dcw0, dcw1, dcw2, dcw3, dcw4], by repeat (first | exact Ext.refl _ _ | assumption | refine Ext.push ?_ _ | ((refine Ext.set ?_ ?_ _); rotate_left; · (simp (maxSteps := 3000000) (maxDischargeDepth := 12) only [push_cast, appendX, Nat.reduceAdd, Nat.reduceEqDiff, Nat.reduceLT, Nat.reduceLeDiff, reduceIte, reduceCtorEq, dcw0, dcw1, dcw2, dcw3, dcw4])) | ((refine Ext.then1 (by assumption) ?_ ?_); rotate_left; · (intro p hp _; first | assumption | exact List.mem_cons_of_mem _ hp | (cases hp; done) | (simp at hp; subst hp; simp)))), by (simp only [push_cast, TellsL, tells_any, tells_refl])⟩
    | false =>
      have hua : upA a = 0 := by simp [upA, hu]
      rw [hua]
      repeat (first | (with_reducible refine AW.seq ?_) | (with_reducible refine AW.block ?_) | (with_reducible refine AW.skip ?_) | (with_reducible refine AW.ret ?_) | (with_reducible refine AW.exit ?_) | (with_reducible refine AW.reg hT ?_) | ((with_reducible refine AW.cond_true ?_ ?_); · rfl) | ((with_reducible refine AW.cond_false ?_ ?_); · rfl) | simp (maxSteps := 3000000) (maxDischargeDepth := 12) only [push_cast,appendX,reduceIte,reduceCtorEq,Nat.reduceSub,Nat.reduceAdd,Nat.reduceMul,Nat.reduceLT,Nat.reduceLeDiff,Nat.reduceEqDiff,Nat.reduceBEq,Int.reduceToNat,Int.reduceLT,Int.reduceLE,Int.reduceEq,Int.reduceNeg,Try.results38,dcw0,dcw1,dcw2,dcw3,dcw4])
      exact ⟨by simp (maxSteps := 3000000) (maxDischargeDepth := 12) only [push_cast, appendX, Nat.reduceAdd, Nat.reduceEqDiff, Nat.reduceLT, Nat.reduceLeDiff, reduceIte, reduceCtorEq, eA_eq, hu, dcw0, dcw1, dcw2, dcw3, dcw4], by repeat (first | exact Ext.refl _ _ | assumption | refine Ext.push ?_ _ | ((refine Ext.set ?_ ?_ _); rotate_left; · (simp (maxSteps := 3000000) (maxDischargeDepth := 12) only [push_cast, appendX, Nat.reduceAdd, Nat.reduceEqDiff, Nat.reduceLT, Nat.reduceLeDiff, reduceIte, reduceCtorEq, dcw0, dcw1, dcw2, dcw3, dcw4])) | ((refine Ext.then1 (by assumption) ?_ ?_); rotate_left; · (intro p hp _; first | assumption | exact List.mem_cons_of_mem _ hp | (cases hp; done) | (simp at hp; subst hp; simp)))), by (simp only [push_cast, TellsL, tells_any, tells_refl])⟩
  rintro ts σ1 ⟨gt1, xt1, hts⟩
  refine AW.told hts ?_
  clear hts
  have hnp : σ.n ≤ σ.n := Nat.le_refl _
  generalize hpn : σ.n = p at gt1 hnp ⊢
  have hh1 : Hold (σ1.push ⟨bytesD (acc0 a), 5, true⟩) (.sl σ1.n 0 4 4) 5 (bytesD (acc0 a)) := Hold.row (els := bytesD (acc0 a)) Heap.get_push
  have hnew1 : ∀ q ∈ tOf (.sl σ1.n 0 4 4), σ.n ≤ q := by intro q hq; simp [tOf] at hq; subst hq; exact xt1.1
  have e0 : bytesD (acc0 a) = [[.sc (.int .u8 a.f0.f0)], [.sc (.int .u8 a.f0.f1)], [.sc (.int .u8 (upA a))], [.sc (.int .u8 0)]] := rfl
  simp only [eA_eq] at gt1
  repeat (first | (with_reducible refine AW.seq ?_) | (with_reducible refine AW.block ?_) | (with_reducible refine AW.skip ?_) | (with_reducible refine AW.ret ?_) | (with_reducible refine AW.exit ?_) | (with_reducible refine AW.reg hT ?_) | ((with_reducible refine AW.cond_true ?_ ?_); · rfl) | ((with_reducible refine AW.cond_false ?_ ?_); · rfl) | simp (maxSteps := 3000000) (maxDischargeDepth := 12) only [push_cast,appendX,reduceIte,reduceCtorEq,Nat.reduceSub,Nat.reduceAdd,Nat.reduceMul,Nat.reduceLT,Nat.reduceLeDiff,Nat.reduceEqDiff,Nat.reduceBEq,Int.reduceToNat,Int.reduceLT,Int.reduceLE,Int.reduceEq,Int.reduceNeg,Try.results38,dcw0,dcw1,dcw2,dcw3,dcw4,gt1,Heap.lt gt1,xt1.2,xt1.ltT,xt1.leT])
  refine AOpsL.call (first := []) (cap := []) hT rfl rfl rfl fn44 rfl (ACalls.mono (digits_ok _ 4 a.f1 (by decide) g8 (by omega)) ?_)
  rintro y σ2 ⟨rfl, xt2⟩
  rw [← e0] at xt2
  have hd4 : ∀ u, (digits 4 u).length = 4 := digits_length 4
  have hd8 : ∀ u, (digits 8 u).length = 8 := digits_length 8
  have xt3 : Ext [] σ σ2 := (xt1.push _).trans xt2
  have gt2 : σ2.get p = some ⟨[eA a], 42, true⟩ := by simp (maxSteps := 3000000) (maxDischargeDepth := 12) only [push_cast, appendX, Nat.reduceAdd, Nat.reduceEqDiff, Nat.reduceLT, Nat.reduceLeDiff, reduceIte, reduceCtorEq, eA_eq, dcw0, dcw1, dcw2, dcw3, dcw4, gt1, Heap.lt gt1, xt1.2, xt1.ltT, xt1.leT, xt2.2, xt2.ltT, xt2.leT, xt3.2, xt3.ltT, xt3.leT]
  have hh2 := hh1.frame xt2 (by simp)
  clear gt1 xt1 xt2 hh1
  generalize (DV.sl σ1.n 0 4 4) = d at hh2 hnew1 ⊢
  have hpd := hh2.ne gt2 (by simp)
  obtain ⟨d3, σ3, dnapp, hh3, hnew3, xt4, he3⟩ := Hold.appM (ty := 52) (x := .imm (bytesD (digits 4 a.f1))) hh2 hnew1 xt3 rfl rfl (by decide) rfl (bytes_all _) (by simp only [bytesD_length, acc0, List.length_append, List.length_cons, List.length_nil, hd4]; omega)
  have gt3 := he3.get gt2 hpd
  rw [← bytesD_append] at hh3
  clear hh2 hnew1 xt3 hpd gt2
  simp only [eA_eq] at gt3
  repeat (first | (with_reducible refine AW.seq ?_) | (with_reducible refine AW.block ?_) | (with_reducible refine AW.skip ?_) | (with_reducible refine AW.ret ?_) | (with_reducible refine AW.exit ?_) | (with_reducible refine AW.reg hT ?_) | ((with_reducible refine AW.cond_true ?_ ?_); · rfl) | ((with_reducible refine AW.cond_false ?_ ?_); · rfl) | simp (maxSteps := 3000000) (maxDischargeDepth := 12) only [push_cast,appendX,reduceIte,reduceCtorEq,Nat.reduceSub,Nat.reduceAdd,Nat.reduceMul,Nat.reduceLT,Nat.reduceLeDiff,Nat.reduceEqDiff,Nat.reduceBEq,Int.reduceToNat,Int.reduceLT,Int.reduceLE,Int.reduceEq,Int.reduceNeg,Try.results38,dcw0,dcw1,dcw2,dcw3,dcw4,↓dnapp,xt4.2,xt4.ltT,xt4.leT,gt3,Heap.lt gt3])
  refine AOpsL.call (first := []) (cap := []) hT rfl rfl rfl fn44 rfl (ACalls.mono (digits_ok _ 8 a.f0.f2 (by decide) w3.1 (by omega)) ?_)
  rintro y σ4 ⟨rfl, xt5⟩
  have gt4 := xt5.get gt3 (by simp)
  have xt6 := xt4.trans xt5
  have hh4 := hh3.frame xt5 (by simp)
  have hpd := hh4.ne gt4 (by simp)
  obtain ⟨d4, σ5, dnapp, hh5, hnew5, xt7, he5⟩ := Hold.appM (ty := 52) (x := .imm (bytesD (digits 8 a.f0.f2))) hh4 hnew3 xt6 rfl rfl (by decide) rfl (bytes_all _) (by simp only [bytesD_length, acc0, List.length_append, List.length_cons, List.length_nil, hd4, hd8]; omega)
  have gt5 := he5.get gt4 hpd
  rw [← bytesD_append] at hh5
  clear hh3 hh4 hnew3 xt4 xt5 xt6 gt3 gt4 hpd he3 he5
  repeat (first | (with_reducible refine AW.seq ?_) | (with_reducible refine AW.block ?_) | (with_reducible refine AW.skip ?_) | (with_reducible refine AW.ret ?_) | (with_reducible refine AW.exit ?_) | (with_reducible refine AW.reg hT ?_) | ((with_reducible refine AW.cond_true ?_ ?_); · rfl) | ((with_reducible refine AW.cond_false ?_ ?_); · rfl) | simp (maxSteps := 3000000) (maxDischargeDepth := 12) only [push_cast,appendX,reduceIte,reduceCtorEq,Nat.reduceSub,Nat.reduceAdd,Nat.reduceMul,Nat.reduceLT,Nat.reduceLeDiff,Nat.reduceEqDiff,Nat.reduceBEq,Int.reduceToNat,Int.reduceLT,Int.reduceLE,Int.reduceEq,Int.reduceNeg,Try.results38,dcw0,dcw1,dcw2,dcw3,dcw4,↓dnapp,xt7.2,xt7.ltT,xt7.leT,gt5,Heap.lt gt5])
  refine AOpsL.call (first := []) (cap := []) hT rfl rfl rfl fn44 rfl (ACalls.mono (digits_ok _ 4 a.f0.f3 (by decide) (by omega) (by omega)) ?_)
  rintro y σ6 ⟨rfl, xt8⟩
  have gt6 := xt8.get gt5 (by simp)
  have xt9 := xt7.trans xt8
  have hh6 := hh5.frame xt8 (by simp)
  have hpd := hh6.ne gt6 (by simp)
  obtain ⟨d6, σ7, dnapp, hh7, hnew7, xt10, he7⟩ := Hold.appM (ty := 52) (x := .imm (bytesD (digits 4 a.f0.f3))) hh6 hnew5 xt9 rfl rfl (by decide) rfl (bytes_all _) (by simp only [bytesD_length, acc0, List.length_append, List.length_cons, List.length_nil, hd4, hd8]; omega)
  have gt7 := he7.get gt6 hpd
  rw [← bytesD_append] at hh7
  clear hh5 hh6 hnew5 xt7 xt8 xt9 gt5 gt6 hpd he7
  repeat (first | (with_reducible refine AW.seq ?_) | (with_reducible refine AW.block ?_) | (with_reducible refine AW.skip ?_) | (with_reducible refine AW.ret ?_) | (with_reducible refine AW.exit ?_) | (with_reducible refine AW.reg hT ?_) | ((with_reducible refine AW.cond_true ?_ ?_); · rfl) | ((with_reducible refine AW.cond_false ?_ ?_); · rfl) | simp (maxSteps := 3000000) (maxDischargeDepth := 12) only [push_cast,appendX,reduceIte,reduceCtorEq,Nat.reduceSub,Nat.reduceAdd,Nat.reduceMul,Nat.reduceLT,Nat.reduceLeDiff,Nat.reduceEqDiff,Nat.reduceBEq,Int.reduceToNat,Int.reduceLT,Int.reduceLE,Int.reduceEq,Int.reduceNeg,Try.results38,dcw0,dcw1,dcw2,dcw3,dcw4,↓dnapp,xt10.2,xt10.ltT,xt10.leT,gt7,Heap.lt gt7])
  refine AOpsL.call (first := []) (cap := []) hT rfl rfl rfl fn44 rfl (ACalls.mono (digits_ok _ 4 a.f0.f4 (by decide) (by omega) (by omega)) ?_)
  rintro y σ8 ⟨rfl, xt11⟩
  have gt8 := xt11.get gt7 (by simp)
  have xt12 := xt10.trans xt11
  have hh8 := hh7.frame xt11 (by simp)
  have hpd := hh8.ne gt8 (by simp)
  obtain ⟨d8, σ9, dnapp, hh9, hnew9, xt13, he9⟩ := Hold.appM (ty := 52) (x := .imm (bytesD (digits 4 a.f0.f4))) hh8 hnew7 xt12 rfl rfl (by decide) rfl (bytes_all _) (by simp only [bytesD_length, acc0, List.length_append, List.length_cons, List.length_nil, hd4, hd8]; omega)
  have gt9 := he9.get gt8 hpd
  rw [← bytesD_append] at hh9
  clear hh7 hh8 hnew7 xt10 xt11 xt12 gt7 gt8 hpd he9
  repeat (first | (with_reducible refine AW.seq ?_) | (with_reducible refine AW.block ?_) | (with_reducible refine AW.skip ?_) | (with_reducible refine AW.ret ?_) | (with_reducible refine AW.exit ?_) | (with_reducible refine AW.reg hT ?_) | ((with_reducible refine AW.cond_true ?_ ?_); · rfl) | ((with_reducible refine AW.cond_false ?_ ?_); · rfl) | simp (maxSteps := 3000000) (maxDischargeDepth := 12) only [push_cast,appendX,reduceIte,reduceCtorEq,Nat.reduceSub,Nat.reduceAdd,Nat.reduceMul,Nat.reduceLT,Nat.reduceLeDiff,Nat.reduceEqDiff,Nat.reduceBEq,Int.reduceToNat,Int.reduceLT,Int.reduceLE,Int.reduceEq,Int.reduceNeg,Try.results38,dcw0,dcw1,dcw2,dcw3,dcw4,↓dnapp,xt13.2,xt13.ltT,xt13.leT,gt9,Heap.lt gt9])
  refine AW.loop (rbI a p σ) (m := 9) ⟨0, 0, d8, rfl, by omega, rfl, by rw [eA_eq]; exact gt9, by simpa [bytP, acc4] using hh9, hnew9, xt13, by (simp only [push_cast, TellsL, tells_any, tells_refl])⟩ ?_
  clear gt9 hh9 hnew9 xt13
  rintro m ts σ3 ⟨k, z, d, rfl, hk, hz, gtp, hh, hnew, xt3, hts⟩
  refine AW.told hts ?_
  clear hts
  have dcu8 : ((1 : Int) + 1 + 1 + 1 + 1 + 1 + 1 + 1) = 8 := by decide
  by_cases h8 : k = 8
  · subst h8
    have dcz : decide (z < 8) = false := by simp; omega
    have dncl := hh.cells
    have dnlf := hh.leaf
    repeat (first | (with_reducible refine AW.seq ?_) | (with_reducible refine AW.block ?_) | (with_reducible refine AW.skip ?_) | (with_reducible refine AW.ret ?_) | (with_reducible refine AW.exit ?_) | (with_reducible refine AW.reg hT ?_) | ((with_reducible refine AW.cond_true ?_ ?_); · rfl) | ((with_reducible refine AW.cond_false ?_ ?_); · rfl) | simp (maxSteps := 3000000) (maxDischargeDepth := 12) only [push_cast,appendX,reduceIte,reduceCtorEq,Nat.reduceSub,Nat.reduceAdd,Nat.reduceMul,Nat.reduceLT,Nat.reduceLeDiff,Nat.reduceEqDiff,Nat.reduceBEq,Int.reduceToNat,Int.reduceLT,Int.reduceLE,Int.reduceEq,Int.reduceNeg,Try.results38,dcw0,dcw1,dcw2,dcw3,dcw4,↓dnapp,gtp,Heap.lt gtp,xt3.2,xt3.ltT,xt3.leT,dcu8,dcz,↓dncl,↓dnlf])
    exact ⟨hh, fun q hq => hpn ▸ hnew q hq, xt3⟩
  have dcz : decide (z < 8) = true := by simp; omega
  have dcz1 : (z < 8) = True := by simp; omega
  have dcz0 : (0 ≤ z) = True := by simp; omega
  have dczt : z.toNat = k := by omega
  have dcw : IntKind.i64.wrap (z + 1) = z + 1 := wrap_i64 (by omega) (by omega)
  obtain ⟨k', hk'⟩ : ∃ k', k' = k + 1 := ⟨_, rfl⟩
  have hbs : bytP a k' = bytP a k ++ digits 8 (nth a k') := by rw [hk', bytP_succ]
  have hbl := bytP_len a k
  have hn := hn8 k'
  have hk8 : k' ≤ 8 := by omega
  have hkm : 9 - k' < 9 - k := by omega
  have hzk : z + 1 = k' := by omega
  have hpd := hh.ne gtp (by simp)
  clear hd4 dcw0 dcw1 dcw2 dcw3 dcw4
  simp only [eA_eq] at gtp
  have hstep : ∀ σ4 : Heap, Ext [] σ3 σ4 → ∃ d5 σ5, appendX T σ4 52 d (.imm (bytesD (digits 8 (nth a k')))) = some (d5, σ5) ∧ Hold σ5 d5 5 (bytesD (bytP a k')) ∧ (∀ q ∈ tOf d5, σ.n ≤ q) ∧ Ext [] σ σ5 ∧ σ5.get p = some ⟨[eA a], 42, true⟩ := fun σ4 xt4 => by
    obtain ⟨d5, σ5, h1, h2, h3, h4, h5⟩ := Hold.appM (ty := 52) (x := .imm (bytesD (digits 8 (nth a k')))) (hh.frame xt4 (by simp)) hnew (xt3.trans xt4) rfl rfl (by decide) rfl (bytes_all _) (by simp only [bytesD_length, hbl, hd8]; omega)
    exact ⟨d5, σ5, h1, by rw [hbs, bytesD_append]; exact h2, h3, h4, by rw [eA_eq]; exact h5.get (xt4.get gtp (by simp)) hpd⟩
  clear hh hnew hbl hbs h8 hk hd8
  obtain rfl | rfl | rfl | rfl | rfl | rfl | rfl | rfl : k = 0 ∨ k = 1 ∨ k = 2 ∨ k = 3 ∨ k = 4 ∨ k = 5 ∨ k = 6 ∨ k = 7 := by omega
  all_goals
    subst hk'
    repeat (first | (with_reducible refine AW.seq ?_) | (with_reducible refine AW.block ?_) | (with_reducible refine AW.skip ?_) | (with_reducible refine AW.ret ?_) | (with_reducible refine AW.exit ?_) | (with_reducible refine AW.reg hT ?_) | ((with_reducible refine AW.cond_true ?_ ?_); · rfl) | ((with_reducible refine AW.cond_false ?_ ?_); · rfl) | simp (maxSteps := 3000000) (maxDischargeDepth := 12) only [push_cast,appendX,reduceIte,reduceCtorEq,Nat.reduceSub,Nat.reduceAdd,Nat.reduceMul,Nat.reduceLT,Nat.reduceLeDiff,Nat.reduceEqDiff,Nat.reduceBEq,Int.reduceToNat,Int.reduceLT,Int.reduceLE,Int.reduceEq,Int.reduceNeg,Try.results38,↓dnapp,gtp,Heap.lt gtp,xt3.2,xt3.ltT,xt3.leT,dcu8,dcz,dcz1,dcz0,dczt,dcw])
    refine AOpsL.call (first := []) (cap := []) hT rfl rfl rfl fn44 rfl (ACalls.mono (digits_ok _ 8 _ (by decide) hn.1 hn.2) ?_)
    rintro y σ4 ⟨rfl, xt4⟩
    obtain ⟨d5, σ5, dnapp, hh5, hnew5, xt5, gt5⟩ := hstep σ4 xt4
    clear hstep xt4
    simp only [Nat.reduceAdd, Nat.zero_add, nth] at dnapp
    repeat (first | (with_reducible refine AW.seq ?_) | (with_reducible refine AW.block ?_) | (with_reducible refine AW.skip ?_) | (with_reducible refine AW.ret ?_) | (with_reducible refine AW.exit ?_) | (with_reducible refine AW.reg hT ?_) | ((with_reducible refine AW.cond_true ?_ ?_); · rfl) | ((with_reducible refine AW.cond_false ?_ ?_); · rfl) | simp (maxSteps := 3000000) (maxDischargeDepth := 12) only [push_cast,appendX,reduceIte,reduceCtorEq,Nat.reduceSub,Nat.reduceAdd,Nat.reduceMul,Nat.reduceLT,Nat.reduceLeDiff,Nat.reduceEqDiff,Nat.reduceBEq,Int.reduceToNat,Int.reduceLT,Int.reduceLE,Int.reduceEq,Int.reduceNeg,Try.results38,↓dnapp,gtp,Heap.lt gtp,xt3.2,xt3.ltT,xt3.leT,dcu8,dcz,dcz1,dcz0,dczt,dcw,xt5.2,xt5.ltT,xt5.leT,gt5,Heap.lt gt5])
    exact ⟨_, hkm, _, z + 1, d5, rfl, hk8, hzk, gt5, hh5, hnew5, xt5, by (simp only [push_cast, TellsL, tells_any, tells_refl])⟩
def reI (l : List Ad) (σ0 : Heap) (m : Nat) (ts : List DV) (σ : Heap) : Prop := ∃ i d, m = l.length + 1 - i ∧ i ≤ l.length ∧ (∀ x ∈ l.take i, mayA x) ∧ Hold σ d 5 (bytesD (bytsA (l.take i))) ∧ (∀ q ∈ tOf d, σ0.n ≤ q) ∧ Ext [] σ0 σ ∧ TellsL ts (.imm (l.map eA) :: .any :: .any :: .any :: d :: .sc (.int .i64 i) :: .any :: .any :: .any :: .any :: .any :: .any :: .any :: .any :: .any :: .any :: .any :: .any :: .any :: .any :: .any :: .any :: .any :: .any :: .any :: .any :: .any :: .any :: .any :: [])
theorem rencode_ok (σ : Heap) (l : List Ad) (hw : ∀ x ∈ l, wA x) : ACalls Try.prog 26 [.imm (l.map eA)] σ (fun x σ' => x = .tup [.imm (bytesD (encT l).1), .sc (.int .i64 (encT l).2)] ∧ Ext [] σ σ') := by
  have dcml : (l.map eA).length = l.length := by simp
  refine toImmP (e := 5) ?_
  refine ACalls.code hT Try.func26 rfl ?_
  simp only [Try.ntmps26, List.length_cons, List.length_nil, Nat.reduceSub, Nat.reduceAdd, List.replicate, List.cons_append, List.nil_append]
  by_cases h64 : 64 < l.length
  · have dc64 : decide (64 < (l.length : Int)) = true := by simp; omega
    have e1 : encT l = ([], 3) := by simp [encT, h64]
    repeat (first | (with_reducible refine AW.seq ?_) | (with_reducible refine AW.block ?_) | (with_reducible refine AW.skip ?_) | (with_reducible refine AW.ret ?_) | (with_reducible refine AW.exit ?_) | (with_reducible refine AW.reg hT ?_) | ((with_reducible refine AW.cond_true ?_ ?_); · rfl) | ((with_reducible refine AW.cond_false ?_ ?_); · rfl) | simp (maxSteps := 3000000) (maxDischargeDepth := 12) only [push_cast,appendX,reduceIte,reduceCtorEq,Nat.reduceSub,Nat.reduceAdd,Nat.reduceMul,Nat.reduceLT,Nat.reduceLeDiff,Nat.reduceEqDiff,Nat.reduceBEq,Int.reduceToNat,Int.reduceLT,Int.reduceLE,Int.reduceEq,Int.reduceNeg,Try.results26,dcml,dc64])
    refine ⟨_, by rw [e1], by rw [e1]; exact Hold.nil _ _, by simp [tOf], Ext.refl _ _⟩
  have dc64 : decide (64 < (l.length : Int)) = false := by simp; omega
  repeat (first | (with_reducible refine AW.seq ?_) | (with_reducible refine AW.block ?_) | (with_reducible refine AW.skip ?_) | (with_reducible refine AW.ret ?_) | (with_reducible refine AW.exit ?_) | (with_reducible refine AW.reg hT ?_) | ((with_reducible refine AW.cond_true ?_ ?_); · rfl) | ((with_reducible refine AW.cond_false ?_ ?_); · rfl) | simp (maxSteps := 3000000) (maxDischargeDepth := 12) only [push_cast,appendX,reduceIte,reduceCtorEq,Nat.reduceSub,Nat.reduceAdd,Nat.reduceMul,Nat.reduceLT,Nat.reduceLeDiff,Nat.reduceEqDiff,Nat.reduceBEq,Int.reduceToNat,Int.reduceLT,Int.reduceLE,Int.reduceEq,Int.reduceNeg,Try.results26,dcml,dc64])
  refine AW.loop (reI l σ) (m := l.length + 1) ⟨0, .sc (.slice none 0 0), rfl, Nat.zero_le _, by simp, Hold.nil _ _, by simp [tOf], Ext.refl _ _, by (simp only [push_cast, TellsL, tells_any, tells_refl])⟩ ?_
  rintro m ts σ3 ⟨i, d, rfl, hil, hmay, hh, hnew, xt3, hts⟩
  refine AW.told hts ?_
  clear hts
  by_cases hi : i < l.length
  · have dci : decide ((i : Int) < (l.length : Int)) = true := by simp; omega
    have dci2 : ((i : Int) < (l.length : Int)) = True := by simp; omega
    have dci0 : ((0 : Int) ≤ (i : Int)) = True := by simp
    obtain ⟨x, hx⟩ : ∃ x, x = l[i] := ⟨_, rfl⟩
    have hxm : x ∈ l := by rw [hx]; exact List.getElem_mem _
    have hxw : wA x := hw x hxm
    have dcel : (l.map eA)[i]? = some (eA x) := by rw [List.getElem?_map, List.getElem?_eq_getElem hi, hx]; rfl
    have dcwi : IntKind.i64.wrap ((i : Int) + 1) = (i : Int) + 1 := wrap_i64 (by omega) (by omega)
    have dcel2 := dcel
    rw [eA_eq] at dcel2
    clear dcel
    repeat (first | (with_reducible refine AW.seq ?_) | (with_reducible refine AW.block ?_) | (with_reducible refine AW.skip ?_) | (with_reducible refine AW.ret ?_) | (with_reducible refine AW.exit ?_) | (with_reducible refine AW.reg hT ?_) | ((with_reducible refine AW.cond_true ?_ ?_); · rfl) | ((with_reducible refine AW.cond_false ?_ ?_); · rfl) | simp (maxSteps := 3000000) (maxDischargeDepth := 12) only [push_cast,appendX,reduceIte,reduceCtorEq,Nat.reduceSub,Nat.reduceAdd,Nat.reduceMul,Nat.reduceLT,Nat.reduceLeDiff,Nat.reduceEqDiff,Nat.reduceBEq,Int.reduceToNat,Int.reduceLT,Int.reduceLE,Int.reduceEq,Int.reduceNeg,Try.results26,dcml,dc64,xt3.2,xt3.ltT,xt3.leT,dci,dci2,dci0,dcwi,dcel2])
    refine AOpsL.call (first := []) (cap := []) hT rfl rfl rfl fn21 rfl (ACalls.mono (rmay_ok _ x) ?_)
    rintro y σ4 ⟨rfl, xt4⟩
    by_cases hm : mayA x
    · have dcm : decide (mayA x) = true := by simpa using hm
      rw [dcm]
      repeat (first | (with_reducible refine AW.seq ?_) | (with_reducible refine AW.block ?_) | (with_reducible refine AW.skip ?_) | (with_reducible refine AW.ret ?_) | (with_reducible refine AW.exit ?_) | (with_reducible refine AW.reg hT ?_) | ((with_reducible refine AW.cond_true ?_ ?_); · rfl) | ((with_reducible refine AW.cond_false ?_ ?_); · rfl) | simp (maxSteps := 3000000) (maxDischargeDepth := 12) only [push_cast,appendX,reduceIte,reduceCtorEq,Nat.reduceSub,Nat.reduceAdd,Nat.reduceMul,Nat.reduceLT,Nat.reduceLeDiff,Nat.reduceEqDiff,Nat.reduceBEq,Int.reduceToNat,Int.reduceLT,Int.reduceLE,Int.reduceEq,Int.reduceNeg,Try.results26,dcml,dc64,xt3.2,xt3.ltT,xt3.leT,dci,dci2,dci0,dcwi,dcel2,xt4.2,xt4.ltT,xt4.leT,dcm])
      refine AOpsL.call (first := []) (cap := []) hT rfl rfl rfl fn38 rfl (ACalls.mono (rbytes_ok _ x hxw hm) ?_)
      rintro y σ5 ⟨rfl, xt5⟩
      have hl2 := bytsA_length (l.take i)
      have hl3 := bytA_length x
      rw [List.length_take] at hl2
      obtain ⟨d6, σ6, dnapp, hh6, hnew6, xt6, _⟩ := Hold.appM (ty := 52) (x := .imm (bytesD (bytA x))) (hh.frame (X := []) (xt4.trans xt5) (by simp)) hnew ((xt3.trans xt4).trans xt5) rfl rfl (by decide) rfl (bytes_all _) (by simp only [bytesD_length]; omega)
      repeat (first | (with_reducible refine AW.seq ?_) | (with_reducible refine AW.block ?_) | (with_reducible refine AW.skip ?_) | (with_reducible refine AW.ret ?_) | (with_reducible refine AW.exit ?_) | (with_reducible refine AW.reg hT ?_) | ((with_reducible refine AW.cond_true ?_ ?_); · rfl) | ((with_reducible refine AW.cond_false ?_ ?_); · rfl) | simp (maxSteps := 3000000) (maxDischargeDepth := 12) only [push_cast,appendX,reduceIte,reduceCtorEq,Nat.reduceSub,Nat.reduceAdd,Nat.reduceMul,Nat.reduceLT,Nat.reduceLeDiff,Nat.reduceEqDiff,Nat.reduceBEq,Int.reduceToNat,Int.reduceLT,Int.reduceLE,Int.reduceEq,Int.reduceNeg,Try.results26,dcml,dc64,xt3.2,xt3.ltT,xt3.leT,dci,dci2,dci0,dcwi,dcel2,xt4.2,xt4.ltT,xt4.leT,dcm,xt5.2,xt5.ltT,xt5.leT,↓dnapp,xt6.2,xt6.ltT,xt6.leT])
      refine ⟨l.length + 1 - (i + 1), by omega, i + 1, d6, rfl, hi, ?_, ?_, hnew6, xt6, by (simp only [push_cast, TellsL, tells_any, tells_refl])⟩
      · intro y hy
        rw [List.take_add_one, List.getElem?_eq_getElem hi, ← hx] at hy
        rcases List.mem_append.1 hy with hy | hy
        · exact hmay y hy
        · simp at hy; rw [hy]; exact hm
      · rw [bytsA_take hi, ← hx, bytesD_append]; exact hh6
    · have dcm : decide (mayA x) = false := by simpa using hm
      rw [dcm]
      have e1 : encT l = ([], 2) := by
        rw [encT, if_neg h64, if_neg (fun h => hm (h x hxm))]
      repeat (first | (with_reducible refine AW.seq ?_) | (with_reducible refine AW.block ?_) | (with_reducible refine AW.skip ?_) | (with_reducible refine AW.ret ?_) | (with_reducible refine AW.exit ?_) | (with_reducible refine AW.reg hT ?_) | ((with_reducible refine AW.cond_true ?_ ?_); · rfl) | ((with_reducible refine AW.cond_false ?_ ?_); · rfl) | simp (maxSteps := 3000000) (maxDischargeDepth := 12) only [push_cast,appendX,reduceIte,reduceCtorEq,Nat.reduceSub,Nat.reduceAdd,Nat.reduceMul,Nat.reduceLT,Nat.reduceLeDiff,Nat.reduceEqDiff,Nat.reduceBEq,Int.reduceToNat,Int.reduceLT,Int.reduceLE,Int.reduceEq,Int.reduceNeg,Try.results26,dcml,dc64,xt3.2,xt3.ltT,xt3.leT,dci,dci2,dci0,dcwi,dcel2,xt4.2,xt4.ltT,xt4.leT,dcm])
      exact ⟨_, by rw [e1], by rw [e1]; exact Hold.nil _ _, by simp [tOf], xt3.trans xt4⟩
  · have dci : decide ((i : Int) < (l.length : Int)) = false := by simp; omega
    have he : i = l.length := by omega
    subst he
    rw [List.take_length] at hmay hh
    have e1 : encT l = (bytsA l, 0) := by rw [encT, if_neg h64, if_pos hmay]
    have dncl := hh.cells
    have dnlf := hh.leaf
    repeat (first | (with_reducible refine AW.seq ?_) | (with_reducible refine AW.block ?_) | (with_reducible refine AW.skip ?_) | (with_reducible refine AW.ret ?_) | (with_reducible refine AW.exit ?_) | (with_reducible refine AW.reg hT ?_) | ((with_reducible refine AW.cond_true ?_ ?_); · rfl) | ((with_reducible refine AW.cond_false ?_ ?_); · rfl) | simp (maxSteps := 3000000) (maxDischargeDepth := 12) only [push_cast,appendX,reduceIte,reduceCtorEq,Nat.reduceSub,Nat.reduceAdd,Nat.reduceMul,Nat.reduceLT,Nat.reduceLeDiff,Nat.reduceEqDiff,Nat.reduceBEq,Int.reduceToNat,Int.reduceLT,Int.reduceLE,Int.reduceEq,Int.reduceNeg,Try.results26,dcml,dc64,xt3.2,xt3.ltT,xt3.leT,dci,↓dncl,↓dnlf])
    rw [e1]
    exact ⟨d, rfl, hh, hnew, xt3⟩
namespace O
open Go.RowKit Go.Proofs.YtkcccomdamdocaaW.PrintLast
section
variable {P : Program} {T : Tab} {o : Oper} {ts : List DV} {σ : Heap} {K : DV → Heap → Prop} {F : Op → Bool}
/-- All calls are silent. -/
def calls : Op → Bool
  | .call _ => true
  | _ => false
/-- The kind, where F's operations are silent. -/
def kindF (F : Op → Bool) (T : Tab) (op : Op) : OK := if F op then .pure else kindOf T op
theorem kindF_read {op : Op} (h : kindF F T op = .read) : F op = false ∧ kindOf T op = .read := by
  unfold kindF at h
  cases hf : F op with
  | true => rw [hf] at h; cases h
  | false => rw [hf] at h; exact ⟨rfl, h⟩
def Does (P : Program) (T : Tab) (F : Op → Bool) (o : Oper) (ts : List DV) (σ : Heap) (x : DV) : Prop := if F o.op = true then ∀ σ', AOpA P o ts σ' (fun y τ => y = x ∧ τ = σ') else aop T o ts σ = some (x, σ)
theorem Does.of_aop {x : DV} (hF : F o.op = false) (h : aop T o ts σ = some (x, σ)) : Does P T F o ts σ x := by
  unfold Does; rw [if_neg (by rw [hF]; decide)]; exact h
theorem Does.silent {x : DV} (hF : F o.op = true) (h : ∀ σ', AOpA P o ts σ' (fun y τ => y = x ∧ τ = σ')) : Does P T F o ts σ x := by
  unfold Does; rw [if_pos hF]; exact h
theorem Does.congr {ts' : List DV} {x : DV} (h : Does P T F o ts σ x) (he : ∀ z ∈ o.op.operands.toList, Cm.eval ts' z = Cm.eval ts z) : Does P T F o ts' σ x := by
  unfold Does at h ⊢
  split
  · rename_i hF
    rw [if_pos hF] at h
    exact fun σ' t2 h2 => h σ' t2 (fun z hz => (h2 z hz).trans (he z hz))
  · rename_i hF
    rw [if_neg hF] at h
    rw [← h]; exact aop_congr he
theorem Does.op (hT : TOk P T) {x : DV} (h : Does P T F o ts σ x) : AOp P o ts σ (fun y τ => y = x ∧ τ = σ) := by
  unfold Does at h
  split at h
  · exact h σ ts (fun _ _ => rfl)
  · exact aop_sound hT h ⟨rfl, rfl⟩
theorem Does.pure {x : DV} (h : Does P T F o ts σ x) (hk : kindF F T o.op = .pure) (σ' : Heap) : Does P T F o ts σ' x := by
  unfold Does at h ⊢
  unfold kindF at hk
  split
  · rename_i hF
    rw [if_pos hF] at h; exact h
  · rename_i hF
    rw [if_neg hF] at h
    rw [if_neg hF] at hk
    exact aop_pure hk h σ'
/-- A region that draws its order, by one order in which its operations may be taken. -/
def dops (P : Program) (T : Tab) (F : Op → Bool) (ops : Array Oper) (B : List (List Nat)) : List Nat → List Nat → List DV → Heap → (List DV → Heap → Prop) → Prop
  | [], _, ts, σ, K => K ts σ
  | i :: rest, fl, ts, σ, K => match ops[i]? with
    | none => False
    | some o => match gon ops ts o.guard with
      | none => False
      | some false => dops P T F ops B rest fl (putD ts o.dst (.tup [])) σ K
      | some true => match kindF F T o.op with
        | .core => AOpA P o ts σ (fun x σ' => lateL T ops B i ts σ' fl ∧ dops P T F ops B rest fl (putD ts o.dst x) σ' K)
        | .read => (match aop T o ts σ with | some r => dops P T F ops B rest (i :: fl) (putD ts o.dst r.1) σ K | none => False)
        | .pure => ∃ x, Does P T F o ts σ x ∧ dops P T F ops B rest fl (putD ts o.dst x) σ K

structure DrawOk (T : Tab) (F : Op → Bool) (ops : Array Oper) (sched : List Nat) (B : List (List Nat)) : Prop where
  perm : ∀ i, i < ops.size → i ∈ sched
  lt : ∀ i, i ∈ sched → i < ops.size
  nodup : sched.Nodup
  dst : ∀ i j d, i < ops.size → j < ops.size → dstOf ops i = some d → dstOf ops j = some d → i = j
  topo : ∀ pre i rest, sched = pre ++ i :: rest → ∀ j, j < ops.size → bitOf B i j = true → j ∈ pre
  conf : ∀ i j o d, ops[i]? = some o → j < ops.size → j ≠ i → dstOf ops j = some d → d ∈ slotsOf ops o → bitOf B i j = true ∨ bitOf B j i = true
  confR : ∀ i j o d, ops[i]? = some o → kindF F T o.op = .read → j < ops.size → dstOf ops j = some d → d ∈ slotsOf ops o → bitOf B i j = true
  asap : ∀ pre i rest, sched = pre ++ i :: rest → ∀ c o, c ∈ pre → ops[c]? = some o → kindF F T o.op = .core → bitOf B i c = true

/-- What is kept of an operation that was taken and may still be to come. -/
def Rec (P : Program) (T : Tab) (F : Op → Bool) (ops : Array Oper) (ts0 ts : List DV) (σ : Heap) (before : Nat → Bool) (o : Oper) : Prop :=
  ∃ g, gon ops (sel ops ts0 ts before) o.guard = some g ∧ (g = false → ∀ d, o.dst = some d → d < ts.length → ts[d]? = some (.tup [])) ∧
    (g = true → kindF F T o.op ≠ .core ∧ ∃ x, Does P T F o (sel ops ts0 ts before) σ x ∧ ∀ d, o.dst = some d → d < ts.length → ts[d]? = some x)

structure Stage (P : Program) (T : Tab) (F : Op → Bool) (ops : Array Oper) (B : List (List Nat)) (ts0 : List DV) (K : List DV → Heap → Prop) (sched pre rest fl : List Nat) (ts : List DV) (σ : Heap) (b : Nat → Bool) : Prop where
  split : sched = pre ++ rest
  go : dops P T F ops B rest fl ts σ K
  len : ts.length = ts0.length
  un : ∀ s, anyDst ops (fun j => pre.contains j) s = false → ts[s]? = ts0[s]?
  rest_off : ∀ i ∈ rest, b i = false
  recs : ∀ p i q o, pre = p ++ i :: q → b i = false → ops[i]? = some o → Rec P T F ops ts0 ts σ (fun j => p.contains j) o
  flok : ∀ p i q o, pre = p ++ i :: q → ops[i]? = some o → kindF F T o.op = .read → gon ops (sel ops ts0 ts (fun j => p.contains j)) o.guard = some true → i ∈ fl


section
variable {ops : Array Oper} {B : List (List Nat)} {ts0 : List DV} {KK : List DV → Heap → Prop} {sched pre rest fl : List Nat} {b : Nat → Bool}

/-- What operation i reads is the same whoever else was taken. -/
theorem sel_agree (hd : DrawOk T F ops sched B) {p q : List Nat} {i : Nat} {oi : Oper} {ts : List DV} (hl : ts.length = ts0.length) (hs : sched = p ++ i :: q) (hoi : ops[i]? = some oi) (hbi : b i = false)
    (hon : ∀ j, j < ops.size → bitOf B i j = true → b j = true) (hoff : ∀ d, d < ops.size → bitOf B d i = true → b d = false) : Agree ops oi (sel ops ts0 ts (fun j => p.contains j)) (sel ops ts0 ts b) := by
  intro s hsl
  rw [sel_get hl, sel_get hl]
  have hnd := hd.nodup
  rw [hs] at hnd
  have hip : i ∉ p := fun h => by
    have := (List.nodup_append.1 hnd).2.2 i h i List.mem_cons_self
    exact this rfl
  have key : ∀ j, j < ops.size → dstOf ops j = some s → (b j = true ↔ p.contains j = true) := by
    intro j hj hds
    by_cases hji : j = i
    · subst hji
      simp [hbi, hip]
    · rcases hd.conf i j oi s hoi hj hji hds hsl with h | h
      · have h1 := hon j hj h
        have h2 := hd.topo p i q hs j hj h
        simp [h1, h2]
      · have h1 := hoff j hj h
        have h2 : j ∉ p := fun hjp => by
          obtain ⟨p1, p2, rfl⟩ := List.append_of_mem hjp
          have := hd.topo p1 j (p2 ++ i :: q) (by rw [hs]; simp) i ((Array.getElem?_eq_some_iff.1 hoi).1) h
          exact hip (List.mem_append_left _ this)
        simp [h1, h2]
  have : anyDst ops b s = anyDst ops (fun j => p.contains j) s := by
    rw [Bool.eq_iff_iff, anyDst_iff, anyDst_iff]
    constructor
    · rintro ⟨j, h1, h2, h3⟩; exact ⟨j, h1, (key j h1 h3).1 h2, h3⟩
    · rintro ⟨j, h1, h2, h3⟩; exact ⟨j, h1, (key j h1 h3).2 h2, h3⟩
  rw [this]

theorem Stage.cur {ts : List DV} (h : Stage P T F ops B ts0 KK sched pre rest fl ts σ b) : sel ops ts0 ts (fun j => pre.contains j) = ts := by
  apply List.ext_getElem?
  intro s
  rw [sel_get h.len]
  cases ha : anyDst ops (fun j => pre.contains j) s with
  | true => rfl
  | false => rw [h.un s ha]; rfl

theorem Stage.mark {ts : List DV} (h : Stage P T F ops B ts0 KK sched pre rest fl ts σ b) {i : Nat} (hi : i ∉ rest) : Stage P T F ops B ts0 KK sched pre rest fl ts σ (up b i) where
  split := h.split
  go := h.go
  len := h.len
  un := h.un
  rest_off := fun j hj => by
    have hji : j ≠ i := fun e => by subst e; exact hi hj
    rw [up_ne hji]; exact h.rest_off j hj
  recs := fun p k q o hp hb ho => by
    by_cases hki : k = i
    · subst hki; rw [up_self] at hb; cases hb
    · rw [up_ne hki] at hb; exact h.recs p k q o hp hb ho
  flok := h.flok

/-- Operation i, at the head of what is left, is taken: slots. -/
theorem Stage.slots {i : Nat} {ts : List DV} (hd : DrawOk T F ops sched B) (h : Stage P T F ops B ts0 KK sched pre (i :: rest) fl ts σ b) {oi : Oper} (hoi : ops[i]? = some oi) (x : DV) :
    (∀ s, anyDst ops (fun j => (pre ++ [i]).contains j) s = false → (putD ts oi.dst x)[s]? = ts0[s]?) ∧
    (∀ p k q, pre = p ++ k :: q → sel ops ts0 (putD ts oi.dst x) (fun j => p.contains j) = sel ops ts0 ts (fun j => p.contains j)) ∧
    (∀ p k q ok d, pre = p ++ k :: q → ops[k]? = some ok → ok.dst = some d → (putD ts oi.dst x)[d]? = ts[d]?) ∧
    (sel ops ts0 (putD ts oi.dst x) (fun j => pre.contains j) = ts) := by
  have hin : i < ops.size := (Array.getElem?_eq_some_iff.1 hoi).1
  have hnd := hd.nodup
  rw [h.split] at hnd
  have hip : i ∉ pre := fun hm => (List.nodup_append.1 hnd).2.2 i hm i List.mem_cons_self rfl
  have hput : ∀ j, j ∈ pre → ∀ s, dstOf ops j = some s → oi.dst ≠ some s := fun j hj s hs he => by
    have hjn := hd.lt j (by rw [h.split]; exact List.mem_append_left _ hj)
    have := hd.dst j i s hjn hin hs (by rw [dstOf_eq hoi]; exact he)
    exact hip (this ▸ hj)
  have hsel : ∀ p : List Nat, (∀ j, j ∈ p → j ∈ pre) → sel ops ts0 (putD ts oi.dst x) (fun j => p.contains j) = sel ops ts0 ts (fun j => p.contains j) := fun p hp =>
    sel_ext (by rw [putD_length, h.len]) h.len (fun s => by
      cases ha : anyDst ops (fun j => p.contains j) s with
      | true =>
        obtain ⟨j, h1, h2, h3⟩ := anyDst_iff.1 ha
        simp only [if_true]
        exact putD_other (hput j (hp j (by simpa using h2)) s h3)
      | false => rfl)
  refine ⟨fun s hs => ?_, fun p k q hp => hsel p (fun j hj => by rw [hp]; exact List.mem_append_left _ hj), fun p k q ok d hp hok hdd => ?_, ?_⟩
  · have h1 : oi.dst ≠ some s := fun he => by
      have : anyDst ops (fun j => (pre ++ [i]).contains j) s = true := anyDst_iff.2 ⟨i, hin, by simp, by rw [dstOf_eq hoi]; exact he⟩
      rw [hs] at this; cases this
    have h2 : anyDst ops (fun j => pre.contains j) s = false := by
      cases ha : anyDst ops (fun j => pre.contains j) s with
      | false => rfl
      | true =>
        obtain ⟨j, k1, k2, k3⟩ := anyDst_iff.1 ha
        have : anyDst ops (fun j => (pre ++ [i]).contains j) s = true := anyDst_iff.2 ⟨j, k1, by simp at k2 ⊢; exact .inl k2, k3⟩
        rw [hs] at this; cases this
    rw [putD_other h1, h.un s h2]
  · exact putD_other (hput k (by rw [hp]; simp) d (by rw [dstOf_eq hok]; exact hdd))
  · rw [hsel pre (fun j hj => hj)]; exact h.cur

theorem Rec.frame {ts ts' : List DV} {p : List Nat} {ok : Oper} (h : Rec P T F ops ts0 ts σ (fun j => p.contains j) ok) (h1 : sel ops ts0 ts' (fun j => p.contains j) = sel ops ts0 ts (fun j => p.contains j)) (h2 : ∀ d, ok.dst = some d → ts'[d]? = ts[d]?) (hl : ts'.length = ts.length) : Rec P T F ops ts0 ts' σ (fun j => p.contains j) ok := by
  obtain ⟨g, hg, hoff, hon⟩ := h
  refine ⟨g, by rw [h1]; exact hg, fun e d hd hlt => by rw [h2 d hd]; exact hoff e d hd (hl ▸ hlt), fun e => ?_⟩
  obtain ⟨hk, x, hx, hs⟩ := hon e
  exact ⟨hk, x, by rw [h1]; exact hx, fun d hd hlt => by rw [h2 d hd]; exact hs d hd (hl ▸ hlt)⟩

/-- What needs nothing of the heap's turns is taken at once. -/
theorem Stage.float {i : Nat} {ts : List DV} (hd : DrawOk T F ops sched B) (h : Stage P T F ops B ts0 KK sched pre (i :: rest) fl ts σ b) {oi : Oper} (hoi : ops[i]? = some oi) {x : DV} {fl' : List Nat} (hgo : dops P T F ops B rest fl' (putD ts oi.dst x) σ KK)
    (hfl : ∀ j ∈ fl, j ∈ fl') (hrec : ∃ g, gon ops ts oi.guard = some g ∧ (g = false → x = .tup []) ∧ (g = true → kindF F T oi.op ≠ .core ∧ Does P T F oi ts σ x ∧ (kindF F T oi.op = .read → i ∈ fl'))) :
    Stage P T F ops B ts0 KK sched (pre ++ [i]) rest fl' (putD ts oi.dst x) σ b ∧ ∀ s, anyDst ops b s = true → (putD ts oi.dst x)[s]? = ts[s]? := by
  have hin : i < ops.size := (Array.getElem?_eq_some_iff.1 hoi).1
  obtain ⟨s1, s2, s3, s4⟩ := h.slots hd hoi x
  obtain ⟨g, hg, hgf, hgt⟩ := hrec
  refine ⟨⟨by rw [h.split]; simp, hgo, by rw [putD_length, h.len], s1, fun j hj => h.rest_off j (List.mem_cons_of_mem _ hj), fun p k q ok hp hb hok => ?_, fun p k q ok hp hok hk hgk => ?_⟩, fun s hs => ?_⟩
  · rcases split_snoc hp with ⟨rfl, rfl, rfl⟩ | ⟨q', rfl, hpre⟩
    · rw [hoi] at hok; cases hok
      refine ⟨g, by rw [s4]; exact hg, fun e d hdd hlt => ?_, fun e => ⟨(hgt e).1, x, by rw [s4]; exact (hgt e).2.1, fun d hdd hlt => ?_⟩⟩
      · rw [hgf e, hdd]; rw [putD_length] at hlt; exact List.getElem?_set_self hlt
      · rw [hdd]; rw [putD_length] at hlt; exact List.getElem?_set_self hlt
    · exact (h.recs p k q' ok hpre hb hok).frame (s2 p k q' hpre) (fun d hdd => s3 p k q' ok d hpre hok hdd) (putD_length _ _)
  · rcases split_snoc hp with ⟨rfl, rfl, rfl⟩ | ⟨q', rfl, hpre⟩
    · rw [hoi] at hok; cases hok
      rw [s4, hg] at hgk
      have : g = true := Option.some.inj hgk
      exact (hgt this).2.2 hk
    · rw [s2 p k q' hpre] at hgk
      exact hfl k (h.flok p k q' ok hpre hok hk hgk)
  · obtain ⟨j, k1, k2, k3⟩ := anyDst_iff.1 hs
    refine putD_other (fun he => ?_)
    have := hd.dst j i s k1 hin k3 (by rw [dstOf_eq hoi]; exact he)
    rw [this, h.rest_off i List.mem_cons_self] at k2
    cases k2

def HeadCore (T : Tab) (F : Op → Bool) (ops : Array Oper) (ts : List DV) : List Nat → Prop
  | [] => True
  | i :: _ => ∃ oi, ops[i]? = some oi ∧ gon ops ts oi.guard = some true ∧ kindF F T oi.op = .core

theorem Stage.advance (hd : DrawOk T F ops sched B) : ∀ {rest pre fl : List Nat} {ts : List DV}, Stage P T F ops B ts0 KK sched pre rest fl ts σ b →
    ∃ pre' rest' fl' ts', Stage P T F ops B ts0 KK sched pre' rest' fl' ts' σ b ∧ HeadCore T F ops ts' rest' ∧ ∀ s, anyDst ops b s = true → ts'[s]? = ts[s]?
  | [], pre, fl, ts, h => ⟨pre, [], fl, ts, h, trivial, fun _ _ => rfl⟩
  | i :: rest, pre, fl, ts, h => by
    have hgo := h.go
    unfold dops at hgo
    split at hgo
    · exact hgo.elim
    · rename_i oi hoi
      split at hgo
      · exact hgo.elim
      · rename_i hg
        obtain ⟨h1, h2⟩ := h.float hd hoi hgo (fun _ hj => hj) ⟨false, hg, fun _ => rfl, fun e => (by cases e)⟩
        obtain ⟨pre', rest', fl', ts', k1, k2, k3⟩ := Stage.advance hd h1
        exact ⟨pre', rest', fl', ts', k1, k2, fun s hs => (k3 s hs).trans (h2 s hs)⟩
      · rename_i hg
        split at hgo
        · rename_i hk
          exact ⟨pre, i :: rest, fl, ts, h, ⟨oi, hoi, hg, hk⟩, fun _ _ => rfl⟩
        · rename_i hk
          split at hgo
          · rename_i r hr
            have hne : kindF F T oi.op ≠ .core := by rw [hk]; decide
            obtain ⟨hF, hk2⟩ := kindF_read hk
            have hrs := aop_same (by rw [hk2]; decide) hr
            obtain ⟨h1, h2⟩ := h.float hd hoi hgo (fun _ hj => List.mem_cons_of_mem _ hj) ⟨true, hg, fun e => (by cases e), fun _ => ⟨hne, Does.of_aop hF (by rw [hr]; congr 1; exact Prod.ext rfl hrs), fun _ => List.mem_cons_self⟩⟩
            obtain ⟨pre', rest', fl', ts', k1, k2, k3⟩ := Stage.advance hd h1
            exact ⟨pre', rest', fl', ts', k1, k2, fun s hs => (k3 s hs).trans (h2 s hs)⟩
          · exact hgo.elim
        · rename_i hk
          obtain ⟨x, hx, hgo⟩ := hgo
          have hne : kindF F T oi.op ≠ .core := by rw [hk]; decide
          obtain ⟨h1, h2⟩ := h.float hd hoi hgo (fun _ hj => hj) ⟨true, hg, fun e => (by cases e), fun _ => ⟨hne, hx, fun e => (by rw [hk] at e; cases e)⟩⟩
          obtain ⟨pre', rest', fl', ts', k1, k2, k3⟩ := Stage.advance hd h1
          exact ⟨pre', rest', fl', ts', k1, k2, fun s hs => (k3 s hs).trans (h2 s hs)⟩

/-- A step of the heap: the core operation at the head is taken. -/
theorem Stage.core (hd : DrawOk T F ops sched B) {i : Nat} {ts : List DV} (h : Stage P T F ops B ts0 KK sched pre (i :: rest) fl ts σ b) {oi : Oper} (hoi : ops[i]? = some oi) {x : DV} {σ' : Heap} (hgo : dops P T F ops B rest fl (putD ts oi.dst x) σ' KK) (hlate : lateL T ops B i ts σ' fl)
    (hk : kindF F T oi.op = .core) (hon : ∀ j, j < ops.size → bitOf B i j = true → b j = true) : Stage P T F ops B ts0 KK sched (pre ++ [i]) rest fl (putD ts oi.dst x) σ' (up b i) := by
  have hin : i < ops.size := (Array.getElem?_eq_some_iff.1 hoi).1
  obtain ⟨s1, s2, s3, s4⟩ := h.slots hd hoi x
  have hnd := hd.nodup
  rw [h.split] at hnd
  have hir : i ∉ rest := fun hm => by
    have := (List.nodup_append.1 hnd).2.1
    exact (List.nodup_cons.1 this).1 hm
  refine ⟨by rw [h.split]; simp, hgo, by rw [putD_length, h.len], s1, fun j hj => ?_, fun p k q ok hp hb hok => ?_, fun p k q ok hp hok hkk hgk => ?_⟩
  · have hji : j ≠ i := fun e => by subst e; exact hir hj
    rw [up_ne hji]; exact h.rest_off j (List.mem_cons_of_mem _ hj)
  · rcases split_snoc hp with ⟨rfl, rfl, rfl⟩ | ⟨q', rfl, hpre⟩
    · rw [up_self] at hb; cases hb
    · have hki : k ≠ i := fun e => by subst e; rw [up_self] at hb; cases hb
      rw [up_ne hki] at hb
      have hkn : k < ops.size := (Array.getElem?_eq_some_iff.1 hok).1
      have hr := h.recs p k q' ok hpre hb hok
      obtain ⟨g, hg, hgf, hgt⟩ := hr
      have hbit : bitOf B i k = false := by
        cases hbb : bitOf B i k with
        | false => rfl
        | true => rw [hon k hkn hbb] at hb; cases hb
      have hr' : Rec P T F ops ts0 ts σ' (fun j => p.contains j) ok := by
        refine ⟨g, hg, hgf, fun e => ?_⟩
        obtain ⟨hne, y, hy, hys⟩ := hgt e
        refine ⟨hne, ?_⟩
        cases hkk : kindF F T ok.op with
        | core => exact absurd hkk hne
        | pure => exact ⟨y, hy.pure hkk σ', hys⟩
        | read =>
          subst e
          have hfl := h.flok p k q' ok hpre hok hkk hg
          have hl := lateL_mem hlate k hfl hbit ok hok
          refine ⟨slotD ts ok.dst, Does.of_aop (kindF_read hkk).1 ?_, fun d hdd hlt => ?_⟩
          · rw [← hl]
            refine aop_congr (fun z hz => ?_)
            have hag : Agree ops ok ts (sel ops ts0 ts (fun j => p.contains j)) := by
              intro s hsl
              rw [sel_get h.len]
              cases ha : anyDst ops (fun j => p.contains j) s with
              | true => rfl
              | false =>
                have hsn : anyDst ops (fun j => pre.contains j) s = false := by
                  cases hb2 : anyDst ops (fun j => pre.contains j) s with
                  | false => rfl
                  | true =>
                    obtain ⟨j, k1, k2, k3⟩ := anyDst_iff.1 hb2
                    have hbj := hd.confR k j ok s hok hkk k1 k3 hsl
                    have hjp := hd.topo p k (q' ++ i :: rest) (by rw [h.split, hpre]; simp) j k1 hbj
                    have : anyDst ops (fun j => p.contains j) s = true := anyDst_iff.2 ⟨j, k1, by simpa using hjp, k3⟩
                    rw [ha] at this; cases this
                rw [h.un s hsn]; rfl
            exact hag.eval hz
          · have := hys d hdd hlt
            rw [this, slotD, hdd]
            simp [this]
      exact hr'.frame (s2 p k q' hpre) (fun d hdd => s3 p k q' ok d hpre hok hdd) (putD_length _ _)
  · rcases split_snoc hp with ⟨rfl, rfl, rfl⟩ | ⟨q', rfl, hpre⟩
    · rw [hoi] at hok; cases hok
      rw [hk] at hkk; cases hkk
    · rw [s2 p k q' hpre] at hgk
      exact h.flok p k q' ok hpre hok hkk hgk

/-- THE REGION THAT DRAWS ITS ORDER: one order is reckoned, and what it asks. -/
theorem AW.draw (hT : TOk P T) {id : Nat} {TT : Bool × List (List Nat × List Nat)} {ts : List DV} {Q : Exit → List DV → Heap → Prop} (sched : List Nat) (B : List (List Nat)) (hmix : P.follows .mixedOrders = true) (hrt : rtab .any ops = TT) (hwt : waitsOk TT.2 (B.map maskOf) = true) (hbk : baseOk TT.2 (List.range ops.size) = true) (hlen : TT.2.length = ops.size)
    (hd : DrawOk T F ops sched B) (h : dops P T F ops B sched [] ts σ (Q .normal)) : AW P (.region id ops true) ts σ Q := by
  intro c hc hσ a hTR
  refine start_ (S := fun _ => True) (ds := []) (Array.replicate ops.size false) hmix rfl rfl trivial (fun _ => ?_)
  have hdrew : ∃ c', c'.w = c.w.drew ∧ c'.σ = c.σ ∧ Ok P c' ∧ Ev c c' := by
    refine ⟨{ c with w := c.w.drew }, rfl, rfl, ?_, ?_⟩
    · have hev : Ev c { c with w := c.w.drew } := ⟨Nat.le_refl _, fun _ _ => Nat.le_refl _, fun _ _ _ _ _ h => h, fun _ h => h, fun _ _ => rfl, Nat.le_refl _, rfl, rfl, rfl⟩
      refine ⟨fun t ob hob => ?_, hc.inj, hc.zlt⟩
      exact (hc.obj t ob hob).keep hev rfl rfl (fun _ h => h)
    · exact ⟨Nat.le_refl _, fun _ _ => Nat.le_refl _, fun _ _ _ _ _ h => h, fun _ h => h, fun _ _ => rfl, Nat.le_refl _, rfl, rfl, rfl⟩
  obtain ⟨c1, hw1, hσ1, hc1, hev1⟩ := hdrew
  have hT1 := hTR.ev hev1
  have hst0 : Stage P T F ops B ts (Q .normal) sched [] sched [] ts σ (fun _ => false) := ⟨rfl, h, rfl, fun s _ => rfl, fun _ _ => rfl, fun p i q o hp => by simp at hp, fun p i q o hp => by simp at hp⟩
  obtain ⟨pre1, rest1, fl1, ts1, hst1, hh1, _⟩ := hst0.advance hd
  let I : (Nat → Bool) → Act → World → Prop := fun b a w => ∃ pre rest fl ts' σ' c', Stage P T F ops B ts (Q .normal) sched pre rest fl ts' σ' b ∧ HeadCore T F ops ts' rest ∧ Ok P c' ∧ c'.σ = σ' ∧ c'.w = w ∧ Ev c c' ∧ TR c' (sel ops ts ts' b) a
  have hsel0 : sel ops ts ts1 (fun _ => false) = ts := by
    apply List.ext_getElem?
    intro s
    rw [sel_get hst1.len]
    have : anyDst ops (fun _ => false) s = false := by simp [anyDst]
    rw [this]; rfl
  have hI0 : I (fun _ => false) a c.w.drew := ⟨pre1, rest1, fl1, ts1, σ, c1, hst1, hh1, hc1, hσ1.trans hσ, hw1, hev1, by rw [hsel0]; exact hT1⟩
  have hlof : (lof TT.2.length (List.range ops.size) (fun _ => false) == (Array.replicate ops.size false).toList && (List.range ops.size).length == ops.size) = true := by
    have : lof TT.2.length (List.range ops.size) (fun _ => false) = List.replicate ops.size false := by
      rw [hlen]
      apply List.ext_getElem?
      intro k
      by_cases hk : k < ops.size
      · simp [lof, List.getElem?_range hk, List.getElem?_replicate, hk]
      · rw [List.getElem?_eq_none (by simp [lof]; omega), List.getElem?_eq_none (by simp; omega)]
    simp [this]
  refine inv_ (List.range ops.size) I hrt hwt hbk hlof hI0 (fun i hi => ?_) (fun b a' w hall hI => ?_)
  · -- a step
    intro b a w hI hbi hon' hoff'
    have hin : i < ops.size := List.mem_range.1 hi
    have hon : ∀ j, j < ops.size → bitOf B i j = true → b j = true := fun j hj hb => hon' j (by rw [List.contains_iff_mem.2 (List.mem_range.2 hj)]; exact bit_mask hb)
    have hoff : ∀ d, d < ops.size → bitOf B d i = true → b d = false := fun j hj hb => hoff' j (by rw [List.contains_iff_mem.2 (List.mem_range.2 hj)]; exact bit_mask hb)
    obtain ⟨pre, rest, fl, ts', σ', c', hst, hhead, hok', rfl, rfl, hev', hTR'⟩ := hI
    obtain ⟨oi, hoi⟩ : ∃ oi, ops[i]? = some oi := ⟨ops[i], Array.getElem?_eq_getElem hin⟩
    refine ⟨oi, hoi, fun KK hKK => ?_⟩
    have hmem := hd.perm i hin
    rw [hst.split] at hmem
    rcases List.mem_append.1 hmem with hpre | hrest
    · -- it was taken ahead: slots as they were told
      obtain ⟨p, q, hpq⟩ := List.append_of_mem hpre
      obtain ⟨g, hg, hgf, hgt⟩ := hst.recs p i q oi hpq hbi hoi
      have hag := sel_agree (b := b) (ts0 := ts) hd hst.len (by rw [hst.split, hpq, List.append_assoc]; rfl) hoi hbi hon hoff
      have hir : i ∉ rest := fun hm => by
        have := hst.rest_off i hm
        have hnd := hd.nodup
        rw [hst.split] at hnd
        exact (List.nodup_append.1 hnd).2.2 i hpre i hm rfl
      have hgb : gon ops (sel ops ts ts' b) oi.guard = some g := by rw [hag.gon]; exact hg
      have hwant := wanted_gon hTR' hgb
      rw [hwant]
      cases g with
      | false =>
        simp only [Bool.false_eq_true, if_false]
        refine hKK _ _ ⟨pre, rest, fl, ts', c'.σ, c', hst.mark hir, hhead, hok', rfl, rfl, hev', ?_⟩
        rw [sel_up hst.len hoi (fun d hdd hlt => hgf rfl d hdd hlt)]
        exact hTR'.put oi.dst V_undef
      | true =>
        simp only [if_true]
        obtain ⟨hne, x, hx, hxs⟩ := hgt rfl
        have hx' : Does P T F oi (sel ops ts ts' b) c'.σ x := hx.congr (fun z hz => hag.eval hz)
        have hop : AOp P oi (sel ops ts ts' b) c'.σ (fun y τ => y = x ∧ τ = c'.σ) := hx'.op hT
        refine hop c' hok' rfl a hTR' _ _ (fun v y c2 h1 h2 h3 h4 => hKK _ _ ?_)
        obtain ⟨rfl, hσ2⟩ := h4
        refine ⟨pre, rest, fl, ts', c'.σ, c2, hst.mark hir, hhead, h1, hσ2, rfl, hev'.trans h2, ?_⟩
        rw [sel_up hst.len hoi hxs]
        exact (hTR'.ev h2).put oi.dst h3
    · -- it is the head
      cases rest with
      | nil => cases hrest
      | cons h0 rest =>
        obtain ⟨o0, ho0, hg0, hk0⟩ := hhead
        have hi0 : i = h0 := by
          rcases List.mem_cons.1 hrest with e | hm
          · exact e
          · exfalso
            obtain ⟨p, q, hpq⟩ := List.append_of_mem hm
            have hbit := hd.asap (pre ++ h0 :: p) i q (by rw [hst.split, hpq]; simp) h0 o0 (by simp) ho0 hk0
            have h0n : h0 < ops.size := (Array.getElem?_eq_some_iff.1 ho0).1
            have := hon h0 h0n hbit
            rw [hst.rest_off h0 List.mem_cons_self] at this
            cases this
        subst hi0
        rw [hoi] at ho0; cases ho0
        have hag := sel_agree (b := b) (ts0 := ts) hd hst.len hst.split hoi hbi hon hoff
        rw [hst.cur] at hag
        have hgb : gon ops (sel ops ts ts' b) oi.guard = some true := by rw [hag.gon]; exact hg0
        have hwant := wanted_gon hTR' hgb
        rw [hwant]
        simp only [if_true]
        have hgo := hst.go
        unfold dops at hgo
        simp only [hoi, hg0, hk0] at hgo
        have hop := hgo (sel ops ts ts' b) (fun z hz => hag.eval hz)
        refine hop c' hok' rfl a hTR' _ _ (fun v y c2 h1 h2 h3 h4 => hKK _ _ ?_)
        obtain ⟨hlate, hgo'⟩ := h4
        have hst2 := hst.core hd hoi hgo' hlate hk0 hon
        obtain ⟨pre3, rest3, fl3, ts3, hst3, hh3, hk3⟩ := hst2.advance hd
        refine ⟨pre3, rest3, fl3, ts3, c2.σ, c2, hst3, hh3, h1, rfl, rfl, hev'.trans h2, ?_⟩
        have he : sel ops ts ts3 (up b i) = putD (sel ops ts ts' b) oi.dst y := by
          have e1 : sel ops ts ts3 (up b i) = sel ops ts (putD ts' oi.dst y) (up b i) := sel_ext hst3.len hst2.len (fun s => by
            cases ha : anyDst ops (up b i) s with
            | true => simp only [if_true]; exact hk3 s ha
            | false => rfl)
          have e2 : sel ops ts (putD ts' oi.dst y) (up b i) = putD (sel ops ts (putD ts' oi.dst y) b) oi.dst y := sel_up hst2.len hoi (fun d hdd hlt => by rw [hdd]; rw [putD_length] at hlt; exact List.getElem?_set_self hlt)
          have e3 : sel ops ts (putD ts' oi.dst y) b = sel ops ts ts' b := sel_ext hst2.len hst.len (fun s => by
            cases ha : anyDst ops b s with
            | true =>
              simp only [if_true]
              obtain ⟨j, k1, k2, k3⟩ := anyDst_iff.1 ha
              refine putD_other (fun hes => ?_)
              have := hd.dst j i s k1 hin k3 (by rw [dstOf_eq hoi]; exact hes)
              rw [this, hbi] at k2; cases k2
            | false => rfl)
          rw [e1, e2, e3]
        rw [he]
        exact (hTR'.ev h2).put oi.dst h3
  · -- the end
    obtain ⟨pre, rest, fl, ts', σ', c', hst, hhead, hok', rfl, rfl, hev', hTR'⟩ := hI
    have hallb : ∀ j, j < ops.size → b j = true := fun j hj => hall j (List.contains_iff_mem.2 (List.mem_range.2 hj))
    have hrest : rest = [] := by
      cases rest with
      | nil => rfl
      | cons k r =>
        have hkn := hd.lt k (by rw [hst.split]; simp)
        have := hst.rest_off k List.mem_cons_self
        rw [hallb k hkn] at this; cases this
    subst hrest
    have hgo := hst.go
    unfold dops at hgo
    have hsel : sel ops ts ts' b = ts' := by
      apply List.ext_getElem?
      intro s
      rw [sel_get hst.len]
      cases ha : anyDst ops b s with
      | true => rfl
      | false =>
        have : anyDst ops (fun j => pre.contains j) s = false := by
          cases hb2 : anyDst ops (fun j => pre.contains j) s with
          | false => rfl
          | true =>
            obtain ⟨j, k1, k2, k3⟩ := anyDst_iff.1 hb2
            have : anyDst ops b s = true := anyDst_iff.2 ⟨j, k1, hallb j k1, k3⟩
            rw [ha] at this; cases this
        rw [hst.un s this]; rfl
    rw [hsel] at hTR'
    exact ⟨ts', c', rfl, hok', hev', hTR', hgo⟩

def drawB (T : Tab) (F : Op → Bool) (ops : Array Oper) (sched : List Nat) (B : List (List Nat)) : Bool :=
  (List.range ops.size).all (fun i => sched.contains i) && sched.all (fun i => decide (i < ops.size)) && decide sched.Nodup &&
  (List.range ops.size).all (fun i => (List.range ops.size).all fun j => i == j || dstOf ops i == none || !(dstOf ops i == dstOf ops j)) &&
  alongB (fun pre i => (List.range ops.size).all fun j => !bitOf B i j || pre.contains j) [] sched &&
  (List.range ops.size).all (fun i => match ops[i]? with
    | some o => (List.range ops.size).all fun j => match dstOf ops j with
      | some d => !(slotsOf ops o).contains d || ((j == i || bitOf B i j || bitOf B j i) && (!(decide (kindF F T o.op = .read)) || bitOf B i j))
      | none => true
    | none => true) &&
  alongB (fun pre i => pre.all fun c => match ops[c]? with | some o => !(decide (kindF F T o.op = .core)) || bitOf B i c | none => true) [] sched
theorem drawB_ok {sched : List Nat} {B : List (List Nat)} (h : drawB T F ops sched B = true) : DrawOk T F ops sched B := by
  simp only [drawB, Bool.and_eq_true] at h
  obtain ⟨⟨⟨⟨⟨⟨h1, h2⟩, h3⟩, h4⟩, h5⟩, h6⟩, h7⟩ := h
  have conf : ∀ i j o d, ops[i]? = some o → j < ops.size → dstOf ops j = some d → d ∈ slotsOf ops o → (j = i ∨ bitOf B i j = true ∨ bitOf B j i = true) ∧ (kindF F T o.op = .read → bitOf B i j = true) := by
    intro i j o d hi hj hd hs
    have hin := (Array.getElem?_eq_some_iff.1 hi).1
    have k1 := List.all_eq_true.1 h6 i (List.mem_range.2 hin)
    rw [hi] at k1
    have k2 := List.all_eq_true.1 k1 j (List.mem_range.2 hj)
    rw [hd] at k2
    have hc : (slotsOf ops o).contains d = true := List.contains_iff_mem.2 hs
    simp only [hc] at k2
    simp only [Bool.not_true, Bool.false_or, Bool.and_eq_true, Bool.or_eq_true, beq_iff_eq, Bool.not_eq_true', decide_eq_false_iff_not] at k2
    refine ⟨?_, fun hk => ?_⟩
    · rcases k2.1 with (h | h) | h
      · exact .inl h
      · exact .inr (.inl h)
      · exact .inr (.inr h)
    · rcases k2.2 with h | h
      · exact absurd hk h
      · exact h
  refine ⟨fun i hi => ?_, fun i hi => ?_, of_decide_eq_true h3, fun i j d hi hj h8 h9 => ?_, fun pre i rest hs j hj hb => ?_, fun i j o d hi hj hji hd hs => ?_, fun i j o d hi hk hj hd hs => (conf i j o d hi hj hd hs).2 hk, fun pre i rest hs c o hc ho hk => ?_⟩
  · exact List.contains_iff_mem.1 (List.all_eq_true.1 h1 i (List.mem_range.2 hi))
  · simpa using List.all_eq_true.1 h2 i hi
  · have := List.all_eq_true.1 (List.all_eq_true.1 h4 i (List.mem_range.2 hi)) j (List.mem_range.2 hj)
    rw [h8, h9] at this
    simpa using this
  · have := alongB_ok h5 pre i rest hs
    rw [List.nil_append] at this
    have := List.all_eq_true.1 this j (List.mem_range.2 hj)
    rw [hb] at this
    exact List.contains_iff_mem.1 (by simpa using this)
  · rcases (conf i j o d hi hj hd hs).1 with h | h
    · exact absurd h hji
    · exact h
  · have := alongB_ok h7 pre i rest hs
    rw [List.nil_append] at this
    have := List.all_eq_true.1 this c hc
    rw [ho] at this
    simpa [hk] using this
def drawAll (T : Tab) (F : Op → Bool) (ops : Array Oper) (sched : List Nat) (B : List (List Nat)) : Bool :=
  waitsOk (rtab .any ops).2 (B.map maskOf) && baseOk (rtab .any ops).2 (List.range ops.size) && (rtab .any ops).2.length == ops.size && drawB T F ops sched B


section
variable {rest fl : List Nat} {ts ts' : List DV} {K : List DV → Heap → Prop} {i : Nat} {o : Oper} {x : DV}
theorem AW.drawn (hT : TOk P T) {id : Nat} {ts : List DV} {Q : Exit → List DV → Heap → Prop} (F : Op → Bool) (sched : List Nat) (B : List (List Nat)) (hmix : P.follows .mixedOrders = true) (hall : drawAll T F ops sched B = true) (h : dops P T F ops B sched [] ts σ (Q .normal)) : AW P (.region id ops true) ts σ Q := by
  simp only [drawAll, Bool.and_eq_true] at hall
  obtain ⟨⟨⟨h1, h2⟩, h3⟩, h4⟩ := hall
  exact AW.draw hT sched B hmix rfl h1 h2 (by simpa using h3) (drawB_ok h4) h
theorem dops.nil (h : K ts σ) : dops P T F ops B [] fl ts σ K := h
theorem dops.skip (ho : ops[i]? = some o) (hg : gon ops ts o.guard = some false) (hp : putD ts o.dst (.tup []) = ts') (h : dops P T F ops B rest fl ts' σ K) : dops P T F ops B (i :: rest) fl ts σ K := by
  unfold dops; rw [ho]; simp only [hg, hp]; exact h
theorem dops.pure (ho : ops[i]? = some o) (hg : gon ops ts o.guard = some true) (hF : F o.op = false) (hk : kindOf T o.op = .pure) {σ2 : Heap} (hr : aop T o ts σ = some (x, σ2)) (hp : putD ts o.dst x = ts') (h : dops P T F ops B rest fl ts' σ K) : dops P T F ops B (i :: rest) fl ts σ K := by
  have hs : σ2 = σ := aop_same (by rw [hk]; decide) hr
  subst hs
  unfold dops; rw [ho]; simp only [hg, kindF, hF, hk, Bool.false_eq_true, if_false]
  exact ⟨x, Does.of_aop hF hr, by rw [hp]; exact h⟩
theorem dops.read (ho : ops[i]? = some o) (hg : gon ops ts o.guard = some true) (hF : F o.op = false) (hk : kindOf T o.op = .read) {σ2 : Heap} (hr : aop T o ts σ = some (x, σ2)) (hp : putD ts o.dst x = ts') (h : dops P T F ops B rest (i :: fl) ts' σ K) : dops P T F ops B (i :: rest) fl ts σ K := by
  unfold dops; rw [ho]; simp only [hg, kindF, hF, hk, hr, hp, Bool.false_eq_true, if_false]
  exact h
theorem dops.heap (hT : TOk P T) {r : DV × Heap} (ho : ops[i]? = some o) (hg : gon ops ts o.guard = some true) (hF : F o.op = false) (hk : kindOf T o.op = .core) (hr : aop T o ts σ = some r) (hl : lateL T ops B i ts r.2 fl) (hp : putD ts o.dst r.1 = ts') (h : dops P T F ops B rest fl ts' r.2 K) : dops P T F ops B (i :: rest) fl ts σ K := by
  unfold dops; rw [ho]; simp only [hg, kindF, hF, hk, Bool.false_eq_true, if_false]
  exact AOpA.reckoned hT hr ⟨hl, by rw [hp]; exact h⟩
theorem dops.call {cal : Operand} {ars : Array Operand} {at_ : Array TypeId} {f : FuncId} {ds : List DV} (ho : ops[i]? = some o) (hg : gon ops ts o.guard = some true) (hF : F o.op = true)
    (hop : o.op = .call { callee := .value cal, args := ars, argTypes := at_ }) (hc : Cm.eval ts cal = some (.fn (.func f) [] [])) (hf : FnOk P f) (has : evalL ts ars.toList = some ds)
    (hcall : ∀ σ', ACalls P f ds σ' (fun y τ => y = x ∧ τ = σ')) (hp : putD ts o.dst x = ts') (h : dops P T F ops B rest fl ts' σ K) : dops P T F ops B (i :: rest) fl ts σ K := by
  unfold dops; rw [ho]; simp only [hg, kindF, hF, if_true]
  exact ⟨x, Does.silent hF (fun σ' => AOpA.call hop hc hf has (by simpa using hcall σ')), by rw [hp]; exact h⟩
end
end
end
end O
theorem bnd8 : ∀ k, bnd (k + 8) = 24 + 8 * k
  | 0 => by decide
  | k + 1 => by
    have h := bnd8 k
    have e : bnd (k + 1 + 8) = bnd (k + 8) + wd (k + 8) := rfl
    have e2 : wd (k + 8) = 8 := rfl
    omega
theorem vl_byte {c : List Int} {j : Nat} (hj : j < 3) (hc : c.length = 88) : (bytesD c)[j]? = some [.sc (.int .u8 (vl c j))] := by
  have hlt : j < c.length := by omega
  have hb : bnd j = j ∧ wd j = 1 ∧ bnd (j + 1) ≤ 88 := by
    have : j = 0 ∨ j = 1 ∨ j = 2 := by omega
    rcases this with rfl | rfl | rfl <;> decide
  have h1 : (c.drop j).take 1 = [c[j]] := by rw [List.drop_eq_getElem_cons hlt]; rfl
  rw [bytesD_get hlt, vl_good j (by omega), hb.1, hb.2.1, h1]
  simp [num]
def gsI (c : List Int) (q2 q3 : Nat) (σ0 : Heap) (m : Nat) (ts : List DV) (σ : Heap) : Prop := ∃ (k : Nat) (z : Int), m = 9 - k ∧ k ≤ 8 ∧ z = k ∧ σ.get q3 = some ⟨[eA (rdA c k)], 42, true⟩ ∧ σ.get q2 = some ⟨[eA ⟨⟨0, 0, 0, 0, 0⟩, 0, false, ⟨0, 0, 0, 0, 0, 0, 0, 0⟩⟩], 42, true⟩ ∧ Ext [] σ0 σ ∧ TellsL ts (.imm (bytesD c) :: .any :: .ptr q2 0 0 1 :: .ptr q3 0 0 1 :: .sc (.int .i64 z) :: .any :: .any :: .any :: .any :: .any :: .any :: .any :: .any :: .any :: .any :: .any :: .any :: .any :: .any :: .any :: .any :: .any :: .any :: .any :: .any :: .any :: .any :: .any :: .any :: .any :: .any :: .any :: .any :: .any :: .any :: .any :: .any :: .any :: .any :: .any :: .any :: .any :: .any :: .any :: .any :: .any :: .any :: .any :: .any :: .any :: .any :: [])
theorem guess_ok (σ : Heap) (c : List Int) (hc : c.length = 88) (ho : Octs c) : ACalls Try.prog 42 [.imm (bytesD c)] σ (fun y σ' => y = .agg (eA (rdA c 8)) ∧ Ext [] σ σ') := by
  obtain ⟨n88, h88⟩ : ∃ n : Nat, n = 88 := ⟨_, rfl⟩
  have dc8 : (bytesD c).length = n88 := by rw [bytesD_length, h88]; exact hc
  have dc88 : (n88 : Int) = 88 := by omega
  have dcall := bytes_all c
  have dcg0 := vl_byte (c := c) (j := 0) (by decide) hc
  have dcg1 := vl_byte (c := c) (j := 1) (by decide) hc
  have dcg2 := vl_byte (c := c) (j := 2) (by decide) hc
  have hb := vl_bound ho
  have dcv0 : IntKind.i64.wrap (vl c 0) = vl c 0 := wrap_i64 (by have := hb 0; simp only [wd] at this; omega) (by have := hb 0; simp only [wd] at this; omega)
  have dcv1 : IntKind.i64.wrap (vl c 1) = vl c 1 := wrap_i64 (by have := hb 1; simp only [wd] at this; omega) (by have := hb 1; simp only [wd] at this; omega)
  have dcv4 : IntKind.i64.wrap (vl c 4) = vl c 4 := wrap_i64 (by have := hb 4; simp only [wd] at this; omega) (by have := hb 4; simp only [wd] at this; omega)
  have dcv6 : IntKind.i64.wrap (vl c 6) = vl c 6 := wrap_i64 (by have := hb 6; simp only [wd] at this; omega) (by have := hb 6; simp only [wd] at this; omega)
  have dcv7 : IntKind.u32.wrap (vl c 7) = vl c 7 := wrap_u32 (by have := hb 7; simp only [wd] at this; omega) (by have := hb 7; simp only [wd] at this; omega)
  have hsl : ∀ a n : Nat, ((bytesD c).take (a + n)).drop a = bytesD ((c.drop a).take n) := fun a n => by
    rw [bytesD_take, bytesD_drop, List.drop_take]; congr 2; omega
  have dcs5 : ((bytesD c).take 16).drop 8 = bytesD ((c.drop 8).take 8) := hsl 8 8
  have dcs6 : ((bytesD c).take 20).drop 16 = bytesD ((c.drop 16).take 4) := hsl 16 4
  have dcs7 : ((bytesD c).take 24).drop 20 = bytesD ((c.drop 20).take 4) := hsl 20 4
  have dcs4 : ((bytesD c).take 8).drop 4 = bytesD ((c.drop 4).take 4) := hsl 4 4
  have hnum : ∀ (j : Nat), j < 16 → ∀ σ' : Heap, ACalls Try.prog 47 [.imm (bytesD ((c.drop (bnd j)).take (wd j)))] σ' (fun x s => x = .sc (.int .u64 (vl c j)) ∧ s = σ') := fun j hj σ' => by
    have hbj := bnd_le (j + 1) (by omega)
    rw [vl_good j (by omega)]
    exact number_ok σ' _ ((ho.drop _).take _) (by rw [List.length_take]; have := wd_le j; omega)
  refine ACalls.code hT Try.func42 rfl ?_
  simp only [Try.ntmps42, List.length_cons, List.length_nil, Nat.reduceSub, Nat.reduceAdd, List.replicate, List.cons_append, List.nil_append]
  repeat (first | (with_reducible refine AW.seq ?_) | (with_reducible refine AW.block ?_) | (with_reducible refine AW.skip ?_) | (with_reducible refine AW.ret ?_) | (with_reducible refine AW.exit ?_) | (with_reducible refine AW.reg hT ?_) | ((with_reducible refine AW.cond_true ?_ ?_); · rfl) | ((with_reducible refine AW.cond_false ?_ ?_); · rfl) | simp (maxSteps := 3000000) (maxDischargeDepth := 12) only [push_cast,appendX,reduceIte,reduceCtorEq,Nat.reduceSub,Nat.reduceAdd,Nat.reduceMul,Nat.reduceLT,Nat.reduceLeDiff,Nat.reduceEqDiff,Nat.reduceBEq,Int.reduceToNat,Int.reduceLT,Int.reduceLE,Int.reduceEq,Int.reduceNeg,Try.results42,dc8,dc88,dcall,dcg0,dcg1,dcg2,dcv0,dcv1,dcv4,dcv6,dcv7,dcs5,dcs6,dcs7,dcs4])
  refine O.AW.drawn (id := 1) hT O.calls [0, 1, 2, 3, 4, 5, 6, 7, 8, 9, 10, 11, 12, 13, 14, 15, 16, 17, 18, 19, 20, 21, 22, 23, 24, 25, 26, 27, 28, 29, 30] [[], [0], [0, 1], [0, 1, 2], [], [4], [4, 5], [4, 5, 6], [], [8], [8, 9], [], [11], [8, 9, 10, 11, 12], [8, 9, 10, 11, 12, 13], [], [15], [8, 9, 10, 11, 12, 13, 15, 16], [8, 9, 10, 11, 12, 13, 15, 16, 17], [0, 1, 2, 3, 4, 5, 6, 7, 8, 9, 10, 11, 12, 13, 14, 15, 16, 17, 18], [], [20], [8, 9, 10, 11, 12, 13, 15, 16, 17, 20, 21], [8, 9, 10, 11, 12, 13, 15, 16, 17, 20, 21, 22], [], [24], [24, 25], [24, 25, 26], [0, 1, 2, 3, 4, 5, 6, 7, 8, 9, 10, 11, 12, 13, 14, 15, 16, 17, 18, 19, 20, 21, 22, 23, 24, 25, 26, 27], [], [0, 1, 2, 3, 4, 5, 6, 7, 8, 9, 10, 11, 12, 13, 14, 15, 16, 17, 18, 19, 20, 21, 22, 23, 24, 25, 26, 27, 28, 29]] mix (by kernel_rfl) ?_
  repeat (first | (with_reducible refine O.dops.nil ?_) | ((with_reducible apply O.dops.pure); (case ho => ((simp only [List.getElem?_toArray, List.getElem?_cons_zero, List.getElem?_cons_succ]); with_reducible rfl)); (case hg => rfl); (case hF => rfl); (case hk => rfl); (case hr => ((try simp (maxSteps := 3000000) (maxDischargeDepth := 12) only [push_cast, appendX, reduceIte, reduceCtorEq, Nat.reduceSub, Nat.reduceAdd, Nat.reduceMul, Nat.reduceLT, Nat.reduceLeDiff, Nat.reduceEqDiff, Nat.reduceBEq, Int.reduceToNat, Int.reduceLT, Int.reduceLE, Int.reduceEq, Int.reduceNeg, dc8, dc88, dcall, dcg0, dcg1, dcg2, dcv0, dcv1, dcv4, dcv6, dcv7, dcs5, dcs6, dcs7, dcs4]); with_reducible rfl)); (case hp => ((try simp only [putD, List.set_cons_zero, List.set_cons_succ]); with_reducible rfl))) | ((with_reducible apply O.dops.read); (case ho => ((simp only [List.getElem?_toArray, List.getElem?_cons_zero, List.getElem?_cons_succ]); with_reducible rfl)); (case hg => rfl); (case hF => rfl); (case hk => rfl); (case hr => ((try simp (maxSteps := 3000000) (maxDischargeDepth := 12) only [push_cast, appendX, reduceIte, reduceCtorEq, Nat.reduceSub, Nat.reduceAdd, Nat.reduceMul, Nat.reduceLT, Nat.reduceLeDiff, Nat.reduceEqDiff, Nat.reduceBEq, Int.reduceToNat, Int.reduceLT, Int.reduceLE, Int.reduceEq, Int.reduceNeg, dc8, dc88, dcall, dcg0, dcg1, dcg2, dcv0, dcv1, dcv4, dcv6, dcv7, dcs5, dcs6, dcs7, dcs4]); with_reducible rfl)); (case hp => ((try simp only [putD, List.set_cons_zero, List.set_cons_succ]); with_reducible rfl))) | ((with_reducible apply O.dops.heap hT); (case ho => ((simp only [List.getElem?_toArray, List.getElem?_cons_zero, List.getElem?_cons_succ]); with_reducible rfl)); (case hg => rfl); (case hF => rfl); (case hk => rfl); (case hr => ((try simp (maxSteps := 3000000) (maxDischargeDepth := 12) only [push_cast, appendX, reduceIte, reduceCtorEq, Nat.reduceSub, Nat.reduceAdd, Nat.reduceMul, Nat.reduceLT, Nat.reduceLeDiff, Nat.reduceEqDiff, Nat.reduceBEq, Int.reduceToNat, Int.reduceLT, Int.reduceLE, Int.reduceEq, Int.reduceNeg, dc8, dc88, dcall, dcg0, dcg1, dcg2, dcv0, dcv1, dcv4, dcv6, dcv7, dcs5, dcs6, dcs7, dcs4]); with_reducible rfl)); (case hl => (simp (maxSteps := 3000000) (maxDischargeDepth := 12) only [push_cast, appendX, reduceIte, reduceCtorEq, Nat.reduceSub, Nat.reduceAdd, Nat.reduceMul, Nat.reduceLT, Nat.reduceLeDiff, Nat.reduceEqDiff, Nat.reduceBEq, Int.reduceToNat, Int.reduceLT, Int.reduceLE, Int.reduceEq, Int.reduceNeg, dc8, dc88, dcall, dcg0, dcg1, dcg2, dcv0, dcv1, dcv4, dcv6, dcv7, dcs5, dcs6, dcs7, dcs4]; done)); (case hp => ((try simp only [putD, List.set_cons_zero, List.set_cons_succ]); with_reducible rfl))))
  ((with_reducible apply O.dops.call (f := 47)); (case ho => ((simp only [List.getElem?_toArray, List.getElem?_cons_zero, List.getElem?_cons_succ]); with_reducible rfl)); (case hg => rfl); (case hF => rfl); (case hop => rfl); (case hc => rfl); (case hf => exact fn47); (case has => rfl); (case hcall => exact fun s => hnum 5 (by decide) s); (case hp => ((try simp only [putD, List.set_cons_zero, List.set_cons_succ]); with_reducible rfl)))
  repeat (first | (with_reducible refine O.dops.nil ?_) | ((with_reducible apply O.dops.pure); (case ho => ((simp only [List.getElem?_toArray, List.getElem?_cons_zero, List.getElem?_cons_succ]); with_reducible rfl)); (case hg => rfl); (case hF => rfl); (case hk => rfl); (case hr => ((try simp (maxSteps := 3000000) (maxDischargeDepth := 12) only [push_cast, appendX, reduceIte, reduceCtorEq, Nat.reduceSub, Nat.reduceAdd, Nat.reduceMul, Nat.reduceLT, Nat.reduceLeDiff, Nat.reduceEqDiff, Nat.reduceBEq, Int.reduceToNat, Int.reduceLT, Int.reduceLE, Int.reduceEq, Int.reduceNeg, dc8, dc88, dcall, dcg0, dcg1, dcg2, dcv0, dcv1, dcv4, dcv6, dcv7, dcs5, dcs6, dcs7, dcs4]); with_reducible rfl)); (case hp => ((try simp only [putD, List.set_cons_zero, List.set_cons_succ]); with_reducible rfl))) | ((with_reducible apply O.dops.read); (case ho => ((simp only [List.getElem?_toArray, List.getElem?_cons_zero, List.getElem?_cons_succ]); with_reducible rfl)); (case hg => rfl); (case hF => rfl); (case hk => rfl); (case hr => ((try simp (maxSteps := 3000000) (maxDischargeDepth := 12) only [push_cast, appendX, reduceIte, reduceCtorEq, Nat.reduceSub, Nat.reduceAdd, Nat.reduceMul, Nat.reduceLT, Nat.reduceLeDiff, Nat.reduceEqDiff, Nat.reduceBEq, Int.reduceToNat, Int.reduceLT, Int.reduceLE, Int.reduceEq, Int.reduceNeg, dc8, dc88, dcall, dcg0, dcg1, dcg2, dcv0, dcv1, dcv4, dcv6, dcv7, dcs5, dcs6, dcs7, dcs4]); with_reducible rfl)); (case hp => ((try simp only [putD, List.set_cons_zero, List.set_cons_succ]); with_reducible rfl))) | ((with_reducible apply O.dops.heap hT); (case ho => ((simp only [List.getElem?_toArray, List.getElem?_cons_zero, List.getElem?_cons_succ]); with_reducible rfl)); (case hg => rfl); (case hF => rfl); (case hk => rfl); (case hr => ((try simp (maxSteps := 3000000) (maxDischargeDepth := 12) only [push_cast, appendX, reduceIte, reduceCtorEq, Nat.reduceSub, Nat.reduceAdd, Nat.reduceMul, Nat.reduceLT, Nat.reduceLeDiff, Nat.reduceEqDiff, Nat.reduceBEq, Int.reduceToNat, Int.reduceLT, Int.reduceLE, Int.reduceEq, Int.reduceNeg, dc8, dc88, dcall, dcg0, dcg1, dcg2, dcv0, dcv1, dcv4, dcv6, dcv7, dcs5, dcs6, dcs7, dcs4]); with_reducible rfl)); (case hl => (simp (maxSteps := 3000000) (maxDischargeDepth := 12) only [push_cast, appendX, reduceIte, reduceCtorEq, Nat.reduceSub, Nat.reduceAdd, Nat.reduceMul, Nat.reduceLT, Nat.reduceLeDiff, Nat.reduceEqDiff, Nat.reduceBEq, Int.reduceToNat, Int.reduceLT, Int.reduceLE, Int.reduceEq, Int.reduceNeg, dc8, dc88, dcall, dcg0, dcg1, dcg2, dcv0, dcv1, dcv4, dcv6, dcv7, dcs5, dcs6, dcs7, dcs4]; done)); (case hp => ((try simp only [putD, List.set_cons_zero, List.set_cons_succ]); with_reducible rfl))))
  ((with_reducible apply O.dops.call (f := 47)); (case ho => ((simp only [List.getElem?_toArray, List.getElem?_cons_zero, List.getElem?_cons_succ]); with_reducible rfl)); (case hg => rfl); (case hF => rfl); (case hop => rfl); (case hc => rfl); (case hf => exact fn47); (case has => rfl); (case hcall => exact fun s => hnum 6 (by decide) s); (case hp => ((try simp only [putD, List.set_cons_zero, List.set_cons_succ]); with_reducible rfl)))
  repeat (first | (with_reducible refine O.dops.nil ?_) | ((with_reducible apply O.dops.pure); (case ho => ((simp only [List.getElem?_toArray, List.getElem?_cons_zero, List.getElem?_cons_succ]); with_reducible rfl)); (case hg => rfl); (case hF => rfl); (case hk => rfl); (case hr => ((try simp (maxSteps := 3000000) (maxDischargeDepth := 12) only [push_cast, appendX, reduceIte, reduceCtorEq, Nat.reduceSub, Nat.reduceAdd, Nat.reduceMul, Nat.reduceLT, Nat.reduceLeDiff, Nat.reduceEqDiff, Nat.reduceBEq, Int.reduceToNat, Int.reduceLT, Int.reduceLE, Int.reduceEq, Int.reduceNeg, dc8, dc88, dcall, dcg0, dcg1, dcg2, dcv0, dcv1, dcv4, dcv6, dcv7, dcs5, dcs6, dcs7, dcs4]); with_reducible rfl)); (case hp => ((try simp only [putD, List.set_cons_zero, List.set_cons_succ]); with_reducible rfl))) | ((with_reducible apply O.dops.read); (case ho => ((simp only [List.getElem?_toArray, List.getElem?_cons_zero, List.getElem?_cons_succ]); with_reducible rfl)); (case hg => rfl); (case hF => rfl); (case hk => rfl); (case hr => ((try simp (maxSteps := 3000000) (maxDischargeDepth := 12) only [push_cast, appendX, reduceIte, reduceCtorEq, Nat.reduceSub, Nat.reduceAdd, Nat.reduceMul, Nat.reduceLT, Nat.reduceLeDiff, Nat.reduceEqDiff, Nat.reduceBEq, Int.reduceToNat, Int.reduceLT, Int.reduceLE, Int.reduceEq, Int.reduceNeg, dc8, dc88, dcall, dcg0, dcg1, dcg2, dcv0, dcv1, dcv4, dcv6, dcv7, dcs5, dcs6, dcs7, dcs4]); with_reducible rfl)); (case hp => ((try simp only [putD, List.set_cons_zero, List.set_cons_succ]); with_reducible rfl))) | ((with_reducible apply O.dops.heap hT); (case ho => ((simp only [List.getElem?_toArray, List.getElem?_cons_zero, List.getElem?_cons_succ]); with_reducible rfl)); (case hg => rfl); (case hF => rfl); (case hk => rfl); (case hr => ((try simp (maxSteps := 3000000) (maxDischargeDepth := 12) only [push_cast, appendX, reduceIte, reduceCtorEq, Nat.reduceSub, Nat.reduceAdd, Nat.reduceMul, Nat.reduceLT, Nat.reduceLeDiff, Nat.reduceEqDiff, Nat.reduceBEq, Int.reduceToNat, Int.reduceLT, Int.reduceLE, Int.reduceEq, Int.reduceNeg, dc8, dc88, dcall, dcg0, dcg1, dcg2, dcv0, dcv1, dcv4, dcv6, dcv7, dcs5, dcs6, dcs7, dcs4]); with_reducible rfl)); (case hl => (simp (maxSteps := 3000000) (maxDischargeDepth := 12) only [push_cast, appendX, reduceIte, reduceCtorEq, Nat.reduceSub, Nat.reduceAdd, Nat.reduceMul, Nat.reduceLT, Nat.reduceLeDiff, Nat.reduceEqDiff, Nat.reduceBEq, Int.reduceToNat, Int.reduceLT, Int.reduceLE, Int.reduceEq, Int.reduceNeg, dc8, dc88, dcall, dcg0, dcg1, dcg2, dcv0, dcv1, dcv4, dcv6, dcv7, dcs5, dcs6, dcs7, dcs4]; done)); (case hp => ((try simp only [putD, List.set_cons_zero, List.set_cons_succ]); with_reducible rfl))))
  ((with_reducible apply O.dops.call (f := 47)); (case ho => ((simp only [List.getElem?_toArray, List.getElem?_cons_zero, List.getElem?_cons_succ]); with_reducible rfl)); (case hg => rfl); (case hF => rfl); (case hop => rfl); (case hc => rfl); (case hf => exact fn47); (case has => rfl); (case hcall => exact fun s => hnum 7 (by decide) s); (case hp => ((try simp only [putD, List.set_cons_zero, List.set_cons_succ]); with_reducible rfl)))
  repeat (first | (with_reducible refine O.dops.nil ?_) | ((with_reducible apply O.dops.pure); (case ho => ((simp only [List.getElem?_toArray, List.getElem?_cons_zero, List.getElem?_cons_succ]); with_reducible rfl)); (case hg => rfl); (case hF => rfl); (case hk => rfl); (case hr => ((try simp (maxSteps := 3000000) (maxDischargeDepth := 12) only [push_cast, appendX, reduceIte, reduceCtorEq, Nat.reduceSub, Nat.reduceAdd, Nat.reduceMul, Nat.reduceLT, Nat.reduceLeDiff, Nat.reduceEqDiff, Nat.reduceBEq, Int.reduceToNat, Int.reduceLT, Int.reduceLE, Int.reduceEq, Int.reduceNeg, dc8, dc88, dcall, dcg0, dcg1, dcg2, dcv0, dcv1, dcv4, dcv6, dcv7, dcs5, dcs6, dcs7, dcs4]); with_reducible rfl)); (case hp => ((try simp only [putD, List.set_cons_zero, List.set_cons_succ]); with_reducible rfl))) | ((with_reducible apply O.dops.read); (case ho => ((simp only [List.getElem?_toArray, List.getElem?_cons_zero, List.getElem?_cons_succ]); with_reducible rfl)); (case hg => rfl); (case hF => rfl); (case hk => rfl); (case hr => ((try simp (maxSteps := 3000000) (maxDischargeDepth := 12) only [push_cast, appendX, reduceIte, reduceCtorEq, Nat.reduceSub, Nat.reduceAdd, Nat.reduceMul, Nat.reduceLT, Nat.reduceLeDiff, Nat.reduceEqDiff, Nat.reduceBEq, Int.reduceToNat, Int.reduceLT, Int.reduceLE, Int.reduceEq, Int.reduceNeg, dc8, dc88, dcall, dcg0, dcg1, dcg2, dcv0, dcv1, dcv4, dcv6, dcv7, dcs5, dcs6, dcs7, dcs4]); with_reducible rfl)); (case hp => ((try simp only [putD, List.set_cons_zero, List.set_cons_succ]); with_reducible rfl))) | ((with_reducible apply O.dops.heap hT); (case ho => ((simp only [List.getElem?_toArray, List.getElem?_cons_zero, List.getElem?_cons_succ]); with_reducible rfl)); (case hg => rfl); (case hF => rfl); (case hk => rfl); (case hr => ((try simp (maxSteps := 3000000) (maxDischargeDepth := 12) only [push_cast, appendX, reduceIte, reduceCtorEq, Nat.reduceSub, Nat.reduceAdd, Nat.reduceMul, Nat.reduceLT, Nat.reduceLeDiff, Nat.reduceEqDiff, Nat.reduceBEq, Int.reduceToNat, Int.reduceLT, Int.reduceLE, Int.reduceEq, Int.reduceNeg, dc8, dc88, dcall, dcg0, dcg1, dcg2, dcv0, dcv1, dcv4, dcv6, dcv7, dcs5, dcs6, dcs7, dcs4]); with_reducible rfl)); (case hl => (simp (maxSteps := 3000000) (maxDischargeDepth := 12) only [push_cast, appendX, reduceIte, reduceCtorEq, Nat.reduceSub, Nat.reduceAdd, Nat.reduceMul, Nat.reduceLT, Nat.reduceLeDiff, Nat.reduceEqDiff, Nat.reduceBEq, Int.reduceToNat, Int.reduceLT, Int.reduceLE, Int.reduceEq, Int.reduceNeg, dc8, dc88, dcall, dcg0, dcg1, dcg2, dcv0, dcv1, dcv4, dcv6, dcv7, dcs5, dcs6, dcs7, dcs4]; done)); (case hp => ((try simp only [putD, List.set_cons_zero, List.set_cons_succ]); with_reducible rfl))))
  ((with_reducible apply O.dops.call (f := 47)); (case ho => ((simp only [List.getElem?_toArray, List.getElem?_cons_zero, List.getElem?_cons_succ]); with_reducible rfl)); (case hg => rfl); (case hF => rfl); (case hop => rfl); (case hc => rfl); (case hf => exact fn47); (case has => rfl); (case hcall => exact fun s => hnum 4 (by decide) s); (case hp => ((try simp only [putD, List.set_cons_zero, List.set_cons_succ]); with_reducible rfl)))
  repeat (first | (with_reducible refine O.dops.nil ?_) | ((with_reducible apply O.dops.pure); (case ho => ((simp only [List.getElem?_toArray, List.getElem?_cons_zero, List.getElem?_cons_succ]); with_reducible rfl)); (case hg => rfl); (case hF => rfl); (case hk => rfl); (case hr => ((try simp (maxSteps := 3000000) (maxDischargeDepth := 12) only [push_cast, appendX, reduceIte, reduceCtorEq, Nat.reduceSub, Nat.reduceAdd, Nat.reduceMul, Nat.reduceLT, Nat.reduceLeDiff, Nat.reduceEqDiff, Nat.reduceBEq, Int.reduceToNat, Int.reduceLT, Int.reduceLE, Int.reduceEq, Int.reduceNeg, dc8, dc88, dcall, dcg0, dcg1, dcg2, dcv0, dcv1, dcv4, dcv6, dcv7, dcs5, dcs6, dcs7, dcs4]); with_reducible rfl)); (case hp => ((try simp only [putD, List.set_cons_zero, List.set_cons_succ]); with_reducible rfl))) | ((with_reducible apply O.dops.read); (case ho => ((simp only [List.getElem?_toArray, List.getElem?_cons_zero, List.getElem?_cons_succ]); with_reducible rfl)); (case hg => rfl); (case hF => rfl); (case hk => rfl); (case hr => ((try simp (maxSteps := 3000000) (maxDischargeDepth := 12) only [push_cast, appendX, reduceIte, reduceCtorEq, Nat.reduceSub, Nat.reduceAdd, Nat.reduceMul, Nat.reduceLT, Nat.reduceLeDiff, Nat.reduceEqDiff, Nat.reduceBEq, Int.reduceToNat, Int.reduceLT, Int.reduceLE, Int.reduceEq, Int.reduceNeg, dc8, dc88, dcall, dcg0, dcg1, dcg2, dcv0, dcv1, dcv4, dcv6, dcv7, dcs5, dcs6, dcs7, dcs4]); with_reducible rfl)); (case hp => ((try simp only [putD, List.set_cons_zero, List.set_cons_succ]); with_reducible rfl))) | ((with_reducible apply O.dops.heap hT); (case ho => ((simp only [List.getElem?_toArray, List.getElem?_cons_zero, List.getElem?_cons_succ]); with_reducible rfl)); (case hg => rfl); (case hF => rfl); (case hk => rfl); (case hr => ((try simp (maxSteps := 3000000) (maxDischargeDepth := 12) only [push_cast, appendX, reduceIte, reduceCtorEq, Nat.reduceSub, Nat.reduceAdd, Nat.reduceMul, Nat.reduceLT, Nat.reduceLeDiff, Nat.reduceEqDiff, Nat.reduceBEq, Int.reduceToNat, Int.reduceLT, Int.reduceLE, Int.reduceEq, Int.reduceNeg, dc8, dc88, dcall, dcg0, dcg1, dcg2, dcv0, dcv1, dcv4, dcv6, dcv7, dcs5, dcs6, dcs7, dcs4]); with_reducible rfl)); (case hl => (simp (maxSteps := 3000000) (maxDischargeDepth := 12) only [push_cast, appendX, reduceIte, reduceCtorEq, Nat.reduceSub, Nat.reduceAdd, Nat.reduceMul, Nat.reduceLT, Nat.reduceLeDiff, Nat.reduceEqDiff, Nat.reduceBEq, Int.reduceToNat, Int.reduceLT, Int.reduceLE, Int.reduceEq, Int.reduceNeg, dc8, dc88, dcall, dcg0, dcg1, dcg2, dcv0, dcv1, dcv4, dcv6, dcv7, dcs5, dcs6, dcs7, dcs4]; done)); (case hp => ((try simp only [putD, List.set_cons_zero, List.set_cons_succ]); with_reducible rfl))))
  repeat (first | (with_reducible refine AW.seq ?_) | (with_reducible refine AW.block ?_) | (with_reducible refine AW.skip ?_) | (with_reducible refine AW.ret ?_) | (with_reducible refine AW.exit ?_) | (with_reducible refine AW.reg hT ?_) | ((with_reducible show AW _ (.region 1 _ _) _ _ _); (with_reducible refine AW.drawn (id := 1) hT [0,1,2,3,4,5,6,7,8,9,11,12,15,16,20,21,24,25,26,27,10,13,14,17,18,19,22,23,28,29,30] [[],[0],[0,1],[0,1,2],[],[4],[4,5],[4,5,6],[],[8],[8,9],[],[11],[8,9,10,11,12],[8,9,10,11,12,13],[],[15],[8,9,10,11,12,13,15,16],[8,9,10,11,12,13,15,16,17],[0,1,2,3,4,5,6,7,8,9,10,11,12,13,14,15,16,17,18],[],[20],[8,9,10,11,12,13,15,16,17,20,21],[8,9,10,11,12,13,15,16,17,20,21,22],[],[24],[24,25],[24,25,26],[0,1,2,3,4,5,6,7,8,9,10,11,12,13,14,15,16,17,18,19,20,21,22,23,24,25,26,27],[],[0,1,2,3,4,5,6,7,8,9,10,11,12,13,14,15,16,17,18,19,20,21,22,23,24,25,26,27,28,29]] mix (by kernel_rfl) ?_)) | ((with_reducible show DLeft _ _ _ _ (_ :: _) _ _ _ _); (with_reducible apply DLeft.step hT); (case hoi => ((simp only [List.getElem?_toArray,List.getElem?_cons_zero,List.getElem?_cons_succ]); with_reducible rfl)); (case hg => rfl); (case hk => rfl); (case hr => ((try simp (maxSteps := 3000000) (maxDischargeDepth := 12) only [push_cast,appendX,reduceIte,reduceCtorEq,Nat.reduceSub,Nat.reduceAdd,Nat.reduceMul,Nat.reduceLT,Nat.reduceLeDiff,Nat.reduceEqDiff,Nat.reduceBEq,Int.reduceToNat,Int.reduceLT,Int.reduceLE,Int.reduceEq,Int.reduceNeg,Try.results42,dc8,dc88,dcall,dcg0,dcg1,dcg2,dcv0,dcv1,dcv4,dcv6,dcv7,dcs5,dcs6,dcs7,dcs4]); with_reducible rfl))) | ((with_reducible refine AW.cond_true ?_ ?_); · rfl) | ((with_reducible refine AW.cond_false ?_ ?_); · rfl) | simp (maxSteps := 3000000) (maxDischargeDepth := 12) only [push_cast,appendX,reduceIte,reduceCtorEq,Nat.reduceSub,Nat.reduceAdd,Nat.reduceMul,Nat.reduceLT,Nat.reduceLeDiff,Nat.reduceEqDiff,Nat.reduceBEq,Int.reduceToNat,Int.reduceLT,Int.reduceLE,Int.reduceEq,Int.reduceNeg,Try.results42,dc8,dc88,dcall,dcg0,dcg1,dcg2,dcv0,dcv1,dcv4,dcv6,dcv7,dcs5,dcs6,dcs7,dcs4])
  refine AW.loop (gsI c σ.n (σ.n + 1) σ) (m := 9) ⟨0, 0, rfl, by omega, rfl, by simp (maxSteps := 3000000) (maxDischargeDepth := 12) only [push_cast, appendX, Nat.reduceAdd, Nat.reduceEqDiff, Nat.reduceLT, Nat.reduceLeDiff, reduceIte, reduceCtorEq, eA_eq, rdA, frw, dc8, dc88, dcall, dcg0, dcg1, dcg2, dcv0, dcv1, dcv4, dcv6, dcv7, dcs5, dcs6, dcs7, dcs4], by simp (maxSteps := 3000000) (maxDischargeDepth := 12) only [push_cast, appendX, Nat.reduceAdd, Nat.reduceEqDiff, Nat.reduceLT, Nat.reduceLeDiff, reduceIte, reduceCtorEq, eA_eq, dc8, dc88, dcall, dcg0, dcg1, dcg2, dcv0, dcv1, dcv4, dcv6, dcv7, dcs5, dcs6, dcs7, dcs4], by repeat (first | exact Ext.refl _ _ | assumption | refine Ext.push ?_ _ | ((refine Ext.set ?_ ?_ _); rotate_left; · (simp (maxSteps := 3000000) (maxDischargeDepth := 12) only [push_cast, appendX, Nat.reduceAdd, Nat.reduceEqDiff, Nat.reduceLT, Nat.reduceLeDiff, reduceIte, reduceCtorEq, dc8, dc88, dcall, dcg0, dcg1, dcg2, dcv0, dcv1, dcv4, dcv6, dcv7, dcs5, dcs6, dcs7, dcs4])) | ((refine Ext.then1 (by assumption) ?_ ?_); rotate_left; · (intro p hp _; first | assumption | exact List.mem_cons_of_mem _ hp | (cases hp; done) | (simp at hp; subst hp; simp)))), by (simp only [push_cast, TellsL, tells_any, tells_refl])⟩ ?_
  rintro m ts σ3 ⟨k, z, rfl, hk, hz, gt3, gt2, xt3, hts⟩
  refine AW.told hts ?_
  clear hts
  have dcu8 : ((1 : Int) + 1 + 1 + 1 + 1 + 1 + 1 + 1) = 8 := by decide
  simp only [eA_eq] at gt2
  by_cases h8 : k = 8
  · subst h8
    have dcz : decide (z < 8) = false := by simp; omega
    have e8 : eA (rdA c 8) = [.sc (.int .i64 (vl c 0)), .sc (.int .i64 (vl c 1)), .sc (.int .u64 (vl c 5)), .sc (.int .i64 (vl c 6)), .sc (.int .u32 (vl c 7)), .sc (.int .i64 (vl c 4)), .sc (.bool (vl c 2 == 1)), .sc (.int .u64 (vl c 8)), .sc (.int .u64 (vl c 9)), .sc (.int .u64 (vl c 10)), .sc (.int .u64 (vl c 11)), .sc (.int .u64 (vl c 12)), .sc (.int .u64 (vl c 13)), .sc (.int .u64 (vl c 14)), .sc (.int .u64 (vl c 15))] := rfl
    rw [e8] at gt3 ⊢
    repeat (first | (with_reducible refine AW.seq ?_) | (with_reducible refine AW.block ?_) | (with_reducible refine AW.skip ?_) | (with_reducible refine AW.ret ?_) | (with_reducible refine AW.exit ?_) | (with_reducible refine AW.reg hT ?_) | ((with_reducible show AW _ (.region 1 _ _) _ _ _); (with_reducible refine AW.drawn (id := 1) hT [0,1,2,3,4,5,6,7,8,9,11,12,15,16,20,21,24,25,26,27,10,13,14,17,18,19,22,23,28,29,30] [[],[0],[0,1],[0,1,2],[],[4],[4,5],[4,5,6],[],[8],[8,9],[],[11],[8,9,10,11,12],[8,9,10,11,12,13],[],[15],[8,9,10,11,12,13,15,16],[8,9,10,11,12,13,15,16,17],[0,1,2,3,4,5,6,7,8,9,10,11,12,13,14,15,16,17,18],[],[20],[8,9,10,11,12,13,15,16,17,20,21],[8,9,10,11,12,13,15,16,17,20,21,22],[],[24],[24,25],[24,25,26],[0,1,2,3,4,5,6,7,8,9,10,11,12,13,14,15,16,17,18,19,20,21,22,23,24,25,26,27],[],[0,1,2,3,4,5,6,7,8,9,10,11,12,13,14,15,16,17,18,19,20,21,22,23,24,25,26,27,28,29]] mix (by kernel_rfl) ?_)) | ((with_reducible show DLeft _ _ _ _ (_ :: _) _ _ _ _); (with_reducible apply DLeft.step hT); (case hoi => ((simp only [List.getElem?_toArray,List.getElem?_cons_zero,List.getElem?_cons_succ]); with_reducible rfl)); (case hg => rfl); (case hk => rfl); (case hr => ((try simp (maxSteps := 3000000) (maxDischargeDepth := 12) only [push_cast,appendX,reduceIte,reduceCtorEq,Nat.reduceSub,Nat.reduceAdd,Nat.reduceMul,Nat.reduceLT,Nat.reduceLeDiff,Nat.reduceEqDiff,Nat.reduceBEq,Int.reduceToNat,Int.reduceLT,Int.reduceLE,Int.reduceEq,Int.reduceNeg,Try.results42,dc8,dc88,dcall,dcg0,dcg1,dcg2,dcv0,dcv1,dcv4,dcv6,dcv7,dcs5,dcs6,dcs7,dcs4,gt3,Heap.lt gt3,gt2,Heap.lt gt2,xt3.2,xt3.ltT,xt3.leT,dcu8,dcz]); with_reducible rfl))) | ((with_reducible refine AW.cond_true ?_ ?_); · rfl) | ((with_reducible refine AW.cond_false ?_ ?_); · rfl) | simp (maxSteps := 3000000) (maxDischargeDepth := 12) only [push_cast,appendX,reduceIte,reduceCtorEq,Nat.reduceSub,Nat.reduceAdd,Nat.reduceMul,Nat.reduceLT,Nat.reduceLeDiff,Nat.reduceEqDiff,Nat.reduceBEq,Int.reduceToNat,Int.reduceLT,Int.reduceLE,Int.reduceEq,Int.reduceNeg,Try.results42,dc8,dc88,dcall,dcg0,dcg1,dcg2,dcv0,dcv1,dcv4,dcv6,dcv7,dcs5,dcs6,dcs7,dcs4,gt3,Heap.lt gt3,gt2,Heap.lt gt2,xt3.2,xt3.ltT,xt3.leT,dcu8,dcz])
    repeat (first | exact Ext.refl _ _ | assumption | refine Ext.push ?_ _ | ((refine Ext.set ?_ ?_ _); rotate_left; · (simp (maxSteps := 3000000) (maxDischargeDepth := 12) only [push_cast, appendX, Nat.reduceAdd, Nat.reduceEqDiff, Nat.reduceLT, Nat.reduceLeDiff, reduceIte, reduceCtorEq, dc8, dc88, dcall, dcg0, dcg1, dcg2, dcv0, dcv1, dcv4, dcv6, dcv7, dcs5, dcs6, dcs7, dcs4, gt3, Heap.lt gt3, gt2, Heap.lt gt2, xt3.2, xt3.ltT, xt3.leT, dcu8, dcz])) | ((refine Ext.then1 (by assumption) ?_ ?_); rotate_left; · (intro p hp _; first | assumption | exact List.mem_cons_of_mem _ hp | (cases hp; done) | (simp at hp; subst hp; simp))))
  have dcz : decide (z < 8) = true := by simp; omega
  have dcz1 : (z < 8) = True := by simp; omega
  have dcz0 : (0 ≤ z) = True := by simp; omega
  have dczt : z.toNat = k := by omega
  have dcw : IntKind.i64.wrap (z + 1) = z + 1 := wrap_i64 (by omega) (by omega)
  have dcw1 : IntKind.i64.wrap (8 * z) = 8 * z := wrap_i64 (by omega) (by omega)
  have dcw2 : IntKind.i64.wrap (24 + 8 * z) = 24 + 8 * z := wrap_i64 (by omega) (by omega)
  have dcw3 : IntKind.i64.wrap (32 + 8 * z) = 32 + 8 * z := wrap_i64 (by omega) (by omega)
  have dct1 : (24 + 8 * z).toNat = 24 + 8 * k := by omega
  have dct2 : (32 + 8 * z).toNat = 32 + 8 * k := by omega
  have hnk := hnum (k + 8) (by omega)
  rw [bnd8, show wd (k + 8) = 8 from rfl] at hnk
  have dcs8 : ((bytesD c).take (32 + 8 * k)).drop (24 + 8 * k) = bytesD ((c.drop (24 + 8 * k)).take 8) := by
    have := hsl (24 + 8 * k) 8
    rw [← this, show 24 + 8 * k + 8 = 32 + 8 * k by omega]
  have dcp1 : (0 ≤ 24 + 8 * z) = True := eq_true (by omega)
  have dcp2 : (24 + 8 * z ≤ 32 + 8 * z) = True := eq_true (by omega)
  have dcp3 : (32 + 8 * z ≤ 88) = True := eq_true (by omega)
  repeat (first | (with_reducible refine AW.seq ?_) | (with_reducible refine AW.block ?_) | (with_reducible refine AW.skip ?_) | (with_reducible refine AW.ret ?_) | (with_reducible refine AW.exit ?_) | (with_reducible refine AW.reg hT ?_) | ((with_reducible show AW _ (.region 1 _ _) _ _ _); (with_reducible refine AW.drawn (id := 1) hT [0,1,2,3,4,5,6,7,8,9,11,12,15,16,20,21,24,25,26,27,10,13,14,17,18,19,22,23,28,29,30] [[],[0],[0,1],[0,1,2],[],[4],[4,5],[4,5,6],[],[8],[8,9],[],[11],[8,9,10,11,12],[8,9,10,11,12,13],[],[15],[8,9,10,11,12,13,15,16],[8,9,10,11,12,13,15,16,17],[0,1,2,3,4,5,6,7,8,9,10,11,12,13,14,15,16,17,18],[],[20],[8,9,10,11,12,13,15,16,17,20,21],[8,9,10,11,12,13,15,16,17,20,21,22],[],[24],[24,25],[24,25,26],[0,1,2,3,4,5,6,7,8,9,10,11,12,13,14,15,16,17,18,19,20,21,22,23,24,25,26,27],[],[0,1,2,3,4,5,6,7,8,9,10,11,12,13,14,15,16,17,18,19,20,21,22,23,24,25,26,27,28,29]] mix (by kernel_rfl) ?_)) | ((with_reducible show DLeft _ _ _ _ (_ :: _) _ _ _ _); (with_reducible apply DLeft.step hT); (case hoi => ((simp only [List.getElem?_toArray,List.getElem?_cons_zero,List.getElem?_cons_succ]); with_reducible rfl)); (case hg => rfl); (case hk => rfl); (case hr => ((try simp (maxSteps := 3000000) (maxDischargeDepth := 12) only [push_cast,appendX,reduceIte,reduceCtorEq,Nat.reduceSub,Nat.reduceAdd,Nat.reduceMul,Nat.reduceLT,Nat.reduceLeDiff,Nat.reduceEqDiff,Nat.reduceBEq,Int.reduceToNat,Int.reduceLT,Int.reduceLE,Int.reduceEq,Int.reduceNeg,Try.results42,dc8,dc88,dcall,dcg0,dcg1,dcg2,dcv0,dcv1,dcv4,dcv6,dcv7,dcs5,dcs6,dcs7,dcs4,gt3,Heap.lt gt3,gt2,Heap.lt gt2,xt3.2,xt3.ltT,xt3.leT,dcu8,dcz,dcz1,dcz0,dczt,dcw,dcw1,dcw2,dcw3,dct1,dct2,dcs8,dcp1,dcp2,dcp3]); with_reducible rfl))) | ((with_reducible refine AW.cond_true ?_ ?_); · rfl) | ((with_reducible refine AW.cond_false ?_ ?_); · rfl) | simp (maxSteps := 3000000) (maxDischargeDepth := 12) only [push_cast,appendX,reduceIte,reduceCtorEq,Nat.reduceSub,Nat.reduceAdd,Nat.reduceMul,Nat.reduceLT,Nat.reduceLeDiff,Nat.reduceEqDiff,Nat.reduceBEq,Int.reduceToNat,Int.reduceLT,Int.reduceLE,Int.reduceEq,Int.reduceNeg,Try.results42,dc8,dc88,dcall,dcg0,dcg1,dcg2,dcv0,dcv1,dcv4,dcv6,dcv7,dcs5,dcs6,dcs7,dcs4,gt3,Heap.lt gt3,gt2,Heap.lt gt2,xt3.2,xt3.ltT,xt3.leT,dcu8,dcz,dcz1,dcz0,dczt,dcw,dcw1,dcw2,dcw3,dct1,dct2,dcs8,dcp1,dcp2,dcp3])
  refine AOpsL.call (first := []) (cap := []) hT rfl rfl rfl fn47 rfl (ACalls.mono (hnk _) ?_)
  rintro y s4 ⟨rfl, rfl⟩
  clear dcs8 hnk dct1 dct2 dcw1 dcw2 dcw3 dcp1 dcp2 dcp3
  obtain rfl | rfl | rfl | rfl | rfl | rfl | rfl | rfl : k = 0 ∨ k = 1 ∨ k = 2 ∨ k = 3 ∨ k = 4 ∨ k = 5 ∨ k = 6 ∨ k = 7 := by omega
  all_goals
    simp only [eA_eq, rdA, frw] at gt3
    repeat (first | (with_reducible refine AW.seq ?_) | (with_reducible refine AW.block ?_) | (with_reducible refine AW.skip ?_) | (with_reducible refine AW.ret ?_) | (with_reducible refine AW.exit ?_) | (with_reducible refine AW.reg hT ?_) | ((with_reducible show AW _ (.region 1 _ _) _ _ _); (with_reducible refine AW.drawn (id := 1) hT [0,1,2,3,4,5,6,7,8,9,11,12,15,16,20,21,24,25,26,27,10,13,14,17,18,19,22,23,28,29,30] [[],[0],[0,1],[0,1,2],[],[4],[4,5],[4,5,6],[],[8],[8,9],[],[11],[8,9,10,11,12],[8,9,10,11,12,13],[],[15],[8,9,10,11,12,13,15,16],[8,9,10,11,12,13,15,16,17],[0,1,2,3,4,5,6,7,8,9,10,11,12,13,14,15,16,17,18],[],[20],[8,9,10,11,12,13,15,16,17,20,21],[8,9,10,11,12,13,15,16,17,20,21,22],[],[24],[24,25],[24,25,26],[0,1,2,3,4,5,6,7,8,9,10,11,12,13,14,15,16,17,18,19,20,21,22,23,24,25,26,27],[],[0,1,2,3,4,5,6,7,8,9,10,11,12,13,14,15,16,17,18,19,20,21,22,23,24,25,26,27,28,29]] mix (by kernel_rfl) ?_)) | ((with_reducible show DLeft _ _ _ _ (_ :: _) _ _ _ _); (with_reducible apply DLeft.step hT); (case hoi => ((simp only [List.getElem?_toArray,List.getElem?_cons_zero,List.getElem?_cons_succ]); with_reducible rfl)); (case hg => rfl); (case hk => rfl); (case hr => ((try simp (maxSteps := 3000000) (maxDischargeDepth := 12) only [push_cast,appendX,reduceIte,reduceCtorEq,Nat.reduceSub,Nat.reduceAdd,Nat.reduceMul,Nat.reduceLT,Nat.reduceLeDiff,Nat.reduceEqDiff,Nat.reduceBEq,Int.reduceToNat,Int.reduceLT,Int.reduceLE,Int.reduceEq,Int.reduceNeg,Try.results42,dc8,dc88,dcall,dcg0,dcg1,dcg2,dcv0,dcv1,dcv4,dcv6,dcv7,dcs5,dcs6,dcs7,dcs4,gt3,Heap.lt gt3,gt2,Heap.lt gt2,xt3.2,xt3.ltT,xt3.leT,dcu8,dcz,dcz1,dcz0,dczt,dcw]); with_reducible rfl))) | ((with_reducible refine AW.cond_true ?_ ?_); · rfl) | ((with_reducible refine AW.cond_false ?_ ?_); · rfl) | simp (maxSteps := 3000000) (maxDischargeDepth := 12) only [push_cast,appendX,reduceIte,reduceCtorEq,Nat.reduceSub,Nat.reduceAdd,Nat.reduceMul,Nat.reduceLT,Nat.reduceLeDiff,Nat.reduceEqDiff,Nat.reduceBEq,Int.reduceToNat,Int.reduceLT,Int.reduceLE,Int.reduceEq,Int.reduceNeg,Try.results42,dc8,dc88,dcall,dcg0,dcg1,dcg2,dcv0,dcv1,dcv4,dcv6,dcv7,dcs5,dcs6,dcs7,dcs4,gt3,Heap.lt gt3,gt2,Heap.lt gt2,xt3.2,xt3.ltT,xt3.leT,dcu8,dcz,dcz1,dcz0,dczt,dcw])
  · exact ⟨_, by decide, 1, z + 1, rfl, by decide, by omega, by simp (maxSteps := 3000000) (maxDischargeDepth := 12) only [push_cast, appendX, Nat.reduceAdd, Nat.reduceEqDiff, Nat.reduceLT, Nat.reduceLeDiff, reduceIte, reduceCtorEq, eA_eq, rdA, frw, dc8, dc88, dcall, dcg0, dcg1, dcg2, dcv0, dcv1, dcv4, dcv6, dcv7, dcs5, dcs6, dcs7, dcs4, gt3, Heap.lt gt3, gt2, Heap.lt gt2, xt3.2, xt3.ltT, xt3.leT, dcu8, dcz, dcz1, dcz0, dczt, dcw], by simp (maxSteps := 3000000) (maxDischargeDepth := 12) only [push_cast, appendX, Nat.reduceAdd, Nat.reduceEqDiff, Nat.reduceLT, Nat.reduceLeDiff, reduceIte, reduceCtorEq, eA_eq, dc8, dc88, dcall, dcg0, dcg1, dcg2, dcv0, dcv1, dcv4, dcv6, dcv7, dcs5, dcs6, dcs7, dcs4, gt3, Heap.lt gt3, gt2, Heap.lt gt2, xt3.2, xt3.ltT, xt3.leT, dcu8, dcz, dcz1, dcz0, dczt, dcw], by repeat (first | exact Ext.refl _ _ | assumption | refine Ext.push ?_ _ | ((refine Ext.set ?_ ?_ _); rotate_left; · (simp (maxSteps := 3000000) (maxDischargeDepth := 12) only [push_cast, appendX, Nat.reduceAdd, Nat.reduceEqDiff, Nat.reduceLT, Nat.reduceLeDiff, reduceIte, reduceCtorEq, dc8, dc88, dcall, dcg0, dcg1, dcg2, dcv0, dcv1, dcv4, dcv6, dcv7, dcs5, dcs6, dcs7, dcs4, gt3, Heap.lt gt3, gt2, Heap.lt gt2, xt3.2, xt3.ltT, xt3.leT, dcu8, dcz, dcz1, dcz0, dczt, dcw])) | ((refine Ext.then1 (by assumption) ?_ ?_); rotate_left; · (intro p hp _; first | assumption | exact List.mem_cons_of_mem _ hp | (cases hp; done) | (simp at hp; subst hp; simp)))), by (simp only [push_cast, TellsL, tells_any, tells_refl])⟩
  · exact ⟨_, by decide, 2, z + 1, rfl, by decide, by omega, by simp (maxSteps := 3000000) (maxDischargeDepth := 12) only [push_cast, appendX, Nat.reduceAdd, Nat.reduceEqDiff, Nat.reduceLT, Nat.reduceLeDiff, reduceIte, reduceCtorEq, eA_eq, rdA, frw, dc8, dc88, dcall, dcg0, dcg1, dcg2, dcv0, dcv1, dcv4, dcv6, dcv7, dcs5, dcs6, dcs7, dcs4, gt3, Heap.lt gt3, gt2, Heap.lt gt2, xt3.2, xt3.ltT, xt3.leT, dcu8, dcz, dcz1, dcz0, dczt, dcw], by simp (maxSteps := 3000000) (maxDischargeDepth := 12) only [push_cast, appendX, Nat.reduceAdd, Nat.reduceEqDiff, Nat.reduceLT, Nat.reduceLeDiff, reduceIte, reduceCtorEq, eA_eq, dc8, dc88, dcall, dcg0, dcg1, dcg2, dcv0, dcv1, dcv4, dcv6, dcv7, dcs5, dcs6, dcs7, dcs4, gt3, Heap.lt gt3, gt2, Heap.lt gt2, xt3.2, xt3.ltT, xt3.leT, dcu8, dcz, dcz1, dcz0, dczt, dcw], by repeat (first | exact Ext.refl _ _ | assumption | refine Ext.push ?_ _ | ((refine Ext.set ?_ ?_ _); rotate_left; · (simp (maxSteps := 3000000) (maxDischargeDepth := 12) only [push_cast, appendX, Nat.reduceAdd, Nat.reduceEqDiff, Nat.reduceLT, Nat.reduceLeDiff, reduceIte, reduceCtorEq, dc8, dc88, dcall, dcg0, dcg1, dcg2, dcv0, dcv1, dcv4, dcv6, dcv7, dcs5, dcs6, dcs7, dcs4, gt3, Heap.lt gt3, gt2, Heap.lt gt2, xt3.2, xt3.ltT, xt3.leT, dcu8, dcz, dcz1, dcz0, dczt, dcw])) | ((refine Ext.then1 (by assumption) ?_ ?_); rotate_left; · (intro p hp _; first | assumption | exact List.mem_cons_of_mem _ hp | (cases hp; done) | (simp at hp; subst hp; simp)))), by (simp only [push_cast, TellsL, tells_any, tells_refl])⟩
  · exact ⟨_, by decide, 3, z + 1, rfl, by decide, by omega, by simp (maxSteps := 3000000) (maxDischargeDepth := 12) only [push_cast, appendX, Nat.reduceAdd, Nat.reduceEqDiff, Nat.reduceLT, Nat.reduceLeDiff, reduceIte, reduceCtorEq, eA_eq, rdA, frw, dc8, dc88, dcall, dcg0, dcg1, dcg2, dcv0, dcv1, dcv4, dcv6, dcv7, dcs5, dcs6, dcs7, dcs4, gt3, Heap.lt gt3, gt2, Heap.lt gt2, xt3.2, xt3.ltT, xt3.leT, dcu8, dcz, dcz1, dcz0, dczt, dcw], by simp (maxSteps := 3000000) (maxDischargeDepth := 12) only [push_cast, appendX, Nat.reduceAdd, Nat.reduceEqDiff, Nat.reduceLT, Nat.reduceLeDiff, reduceIte, reduceCtorEq, eA_eq, dc8, dc88, dcall, dcg0, dcg1, dcg2, dcv0, dcv1, dcv4, dcv6, dcv7, dcs5, dcs6, dcs7, dcs4, gt3, Heap.lt gt3, gt2, Heap.lt gt2, xt3.2, xt3.ltT, xt3.leT, dcu8, dcz, dcz1, dcz0, dczt, dcw], by repeat (first | exact Ext.refl _ _ | assumption | refine Ext.push ?_ _ | ((refine Ext.set ?_ ?_ _); rotate_left; · (simp (maxSteps := 3000000) (maxDischargeDepth := 12) only [push_cast, appendX, Nat.reduceAdd, Nat.reduceEqDiff, Nat.reduceLT, Nat.reduceLeDiff, reduceIte, reduceCtorEq, dc8, dc88, dcall, dcg0, dcg1, dcg2, dcv0, dcv1, dcv4, dcv6, dcv7, dcs5, dcs6, dcs7, dcs4, gt3, Heap.lt gt3, gt2, Heap.lt gt2, xt3.2, xt3.ltT, xt3.leT, dcu8, dcz, dcz1, dcz0, dczt, dcw])) | ((refine Ext.then1 (by assumption) ?_ ?_); rotate_left; · (intro p hp _; first | assumption | exact List.mem_cons_of_mem _ hp | (cases hp; done) | (simp at hp; subst hp; simp)))), by (simp only [push_cast, TellsL, tells_any, tells_refl])⟩
  · exact ⟨_, by decide, 4, z + 1, rfl, by decide, by omega, by simp (maxSteps := 3000000) (maxDischargeDepth := 12) only [push_cast, appendX, Nat.reduceAdd, Nat.reduceEqDiff, Nat.reduceLT, Nat.reduceLeDiff, reduceIte, reduceCtorEq, eA_eq, rdA, frw, dc8, dc88, dcall, dcg0, dcg1, dcg2, dcv0, dcv1, dcv4, dcv6, dcv7, dcs5, dcs6, dcs7, dcs4, gt3, Heap.lt gt3, gt2, Heap.lt gt2, xt3.2, xt3.ltT, xt3.leT, dcu8, dcz, dcz1, dcz0, dczt, dcw], by simp (maxSteps := 3000000) (maxDischargeDepth := 12) only [push_cast, appendX, Nat.reduceAdd, Nat.reduceEqDiff, Nat.reduceLT, Nat.reduceLeDiff, reduceIte, reduceCtorEq, eA_eq, dc8, dc88, dcall, dcg0, dcg1, dcg2, dcv0, dcv1, dcv4, dcv6, dcv7, dcs5, dcs6, dcs7, dcs4, gt3, Heap.lt gt3, gt2, Heap.lt gt2, xt3.2, xt3.ltT, xt3.leT, dcu8, dcz, dcz1, dcz0, dczt, dcw], by repeat (first | exact Ext.refl _ _ | assumption | refine Ext.push ?_ _ | ((refine Ext.set ?_ ?_ _); rotate_left; · (simp (maxSteps := 3000000) (maxDischargeDepth := 12) only [push_cast, appendX, Nat.reduceAdd, Nat.reduceEqDiff, Nat.reduceLT, Nat.reduceLeDiff, reduceIte, reduceCtorEq, dc8, dc88, dcall, dcg0, dcg1, dcg2, dcv0, dcv1, dcv4, dcv6, dcv7, dcs5, dcs6, dcs7, dcs4, gt3, Heap.lt gt3, gt2, Heap.lt gt2, xt3.2, xt3.ltT, xt3.leT, dcu8, dcz, dcz1, dcz0, dczt, dcw])) | ((refine Ext.then1 (by assumption) ?_ ?_); rotate_left; · (intro p hp _; first | assumption | exact List.mem_cons_of_mem _ hp | (cases hp; done) | (simp at hp; subst hp; simp)))), by (simp only [push_cast, TellsL, tells_any, tells_refl])⟩
  · exact ⟨_, by decide, 5, z + 1, rfl, by decide, by omega, by simp (maxSteps := 3000000) (maxDischargeDepth := 12) only [push_cast, appendX, Nat.reduceAdd, Nat.reduceEqDiff, Nat.reduceLT, Nat.reduceLeDiff, reduceIte, reduceCtorEq, eA_eq, rdA, frw, dc8, dc88, dcall, dcg0, dcg1, dcg2, dcv0, dcv1, dcv4, dcv6, dcv7, dcs5, dcs6, dcs7, dcs4, gt3, Heap.lt gt3, gt2, Heap.lt gt2, xt3.2, xt3.ltT, xt3.leT, dcu8, dcz, dcz1, dcz0, dczt, dcw], by simp (maxSteps := 3000000) (maxDischargeDepth := 12) only [push_cast, appendX, Nat.reduceAdd, Nat.reduceEqDiff, Nat.reduceLT, Nat.reduceLeDiff, reduceIte, reduceCtorEq, eA_eq, dc8, dc88, dcall, dcg0, dcg1, dcg2, dcv0, dcv1, dcv4, dcv6, dcv7, dcs5, dcs6, dcs7, dcs4, gt3, Heap.lt gt3, gt2, Heap.lt gt2, xt3.2, xt3.ltT, xt3.leT, dcu8, dcz, dcz1, dcz0, dczt, dcw], by repeat (first | exact Ext.refl _ _ | assumption | refine Ext.push ?_ _ | ((refine Ext.set ?_ ?_ _); rotate_left; · (simp (maxSteps := 3000000) (maxDischargeDepth := 12) only [push_cast, appendX, Nat.reduceAdd, Nat.reduceEqDiff, Nat.reduceLT, Nat.reduceLeDiff, reduceIte, reduceCtorEq, dc8, dc88, dcall, dcg0, dcg1, dcg2, dcv0, dcv1, dcv4, dcv6, dcv7, dcs5, dcs6, dcs7, dcs4, gt3, Heap.lt gt3, gt2, Heap.lt gt2, xt3.2, xt3.ltT, xt3.leT, dcu8, dcz, dcz1, dcz0, dczt, dcw])) | ((refine Ext.then1 (by assumption) ?_ ?_); rotate_left; · (intro p hp _; first | assumption | exact List.mem_cons_of_mem _ hp | (cases hp; done) | (simp at hp; subst hp; simp)))), by (simp only [push_cast, TellsL, tells_any, tells_refl])⟩
  · exact ⟨_, by decide, 6, z + 1, rfl, by decide, by omega, by simp (maxSteps := 3000000) (maxDischargeDepth := 12) only [push_cast, appendX, Nat.reduceAdd, Nat.reduceEqDiff, Nat.reduceLT, Nat.reduceLeDiff, reduceIte, reduceCtorEq, eA_eq, rdA, frw, dc8, dc88, dcall, dcg0, dcg1, dcg2, dcv0, dcv1, dcv4, dcv6, dcv7, dcs5, dcs6, dcs7, dcs4, gt3, Heap.lt gt3, gt2, Heap.lt gt2, xt3.2, xt3.ltT, xt3.leT, dcu8, dcz, dcz1, dcz0, dczt, dcw], by simp (maxSteps := 3000000) (maxDischargeDepth := 12) only [push_cast, appendX, Nat.reduceAdd, Nat.reduceEqDiff, Nat.reduceLT, Nat.reduceLeDiff, reduceIte, reduceCtorEq, eA_eq, dc8, dc88, dcall, dcg0, dcg1, dcg2, dcv0, dcv1, dcv4, dcv6, dcv7, dcs5, dcs6, dcs7, dcs4, gt3, Heap.lt gt3, gt2, Heap.lt gt2, xt3.2, xt3.ltT, xt3.leT, dcu8, dcz, dcz1, dcz0, dczt, dcw], by repeat (first | exact Ext.refl _ _ | assumption | refine Ext.push ?_ _ | ((refine Ext.set ?_ ?_ _); rotate_left; · (simp (maxSteps := 3000000) (maxDischargeDepth := 12) only [push_cast, appendX, Nat.reduceAdd, Nat.reduceEqDiff, Nat.reduceLT, Nat.reduceLeDiff, reduceIte, reduceCtorEq, dc8, dc88, dcall, dcg0, dcg1, dcg2, dcv0, dcv1, dcv4, dcv6, dcv7, dcs5, dcs6, dcs7, dcs4, gt3, Heap.lt gt3, gt2, Heap.lt gt2, xt3.2, xt3.ltT, xt3.leT, dcu8, dcz, dcz1, dcz0, dczt, dcw])) | ((refine Ext.then1 (by assumption) ?_ ?_); rotate_left; · (intro p hp _; first | assumption | exact List.mem_cons_of_mem _ hp | (cases hp; done) | (simp at hp; subst hp; simp)))), by (simp only [push_cast, TellsL, tells_any, tells_refl])⟩
  · exact ⟨_, by decide, 7, z + 1, rfl, by decide, by omega, by simp (maxSteps := 3000000) (maxDischargeDepth := 12) only [push_cast, appendX, Nat.reduceAdd, Nat.reduceEqDiff, Nat.reduceLT, Nat.reduceLeDiff, reduceIte, reduceCtorEq, eA_eq, rdA, frw, dc8, dc88, dcall, dcg0, dcg1, dcg2, dcv0, dcv1, dcv4, dcv6, dcv7, dcs5, dcs6, dcs7, dcs4, gt3, Heap.lt gt3, gt2, Heap.lt gt2, xt3.2, xt3.ltT, xt3.leT, dcu8, dcz, dcz1, dcz0, dczt, dcw], by simp (maxSteps := 3000000) (maxDischargeDepth := 12) only [push_cast, appendX, Nat.reduceAdd, Nat.reduceEqDiff, Nat.reduceLT, Nat.reduceLeDiff, reduceIte, reduceCtorEq, eA_eq, dc8, dc88, dcall, dcg0, dcg1, dcg2, dcv0, dcv1, dcv4, dcv6, dcv7, dcs5, dcs6, dcs7, dcs4, gt3, Heap.lt gt3, gt2, Heap.lt gt2, xt3.2, xt3.ltT, xt3.leT, dcu8, dcz, dcz1, dcz0, dczt, dcw], by repeat (first | exact Ext.refl _ _ | assumption | refine Ext.push ?_ _ | ((refine Ext.set ?_ ?_ _); rotate_left; · (simp (maxSteps := 3000000) (maxDischargeDepth := 12) only [push_cast, appendX, Nat.reduceAdd, Nat.reduceEqDiff, Nat.reduceLT, Nat.reduceLeDiff, reduceIte, reduceCtorEq, dc8, dc88, dcall, dcg0, dcg1, dcg2, dcv0, dcv1, dcv4, dcv6, dcv7, dcs5, dcs6, dcs7, dcs4, gt3, Heap.lt gt3, gt2, Heap.lt gt2, xt3.2, xt3.ltT, xt3.leT, dcu8, dcz, dcz1, dcz0, dczt, dcw])) | ((refine Ext.then1 (by assumption) ?_ ?_); rotate_left; · (intro p hp _; first | assumption | exact List.mem_cons_of_mem _ hp | (cases hp; done) | (simp at hp; subst hp; simp)))), by (simp only [push_cast, TellsL, tells_any, tells_refl])⟩
  · exact ⟨_, by decide, 8, z + 1, rfl, by decide, by omega, by simp (maxSteps := 3000000) (maxDischargeDepth := 12) only [push_cast, appendX, Nat.reduceAdd, Nat.reduceEqDiff, Nat.reduceLT, Nat.reduceLeDiff, reduceIte, reduceCtorEq, eA_eq, rdA, frw, dc8, dc88, dcall, dcg0, dcg1, dcg2, dcv0, dcv1, dcv4, dcv6, dcv7, dcs5, dcs6, dcs7, dcs4, gt3, Heap.lt gt3, gt2, Heap.lt gt2, xt3.2, xt3.ltT, xt3.leT, dcu8, dcz, dcz1, dcz0, dczt, dcw], by simp (maxSteps := 3000000) (maxDischargeDepth := 12) only [push_cast, appendX, Nat.reduceAdd, Nat.reduceEqDiff, Nat.reduceLT, Nat.reduceLeDiff, reduceIte, reduceCtorEq, eA_eq, dc8, dc88, dcall, dcg0, dcg1, dcg2, dcv0, dcv1, dcv4, dcv6, dcv7, dcs5, dcs6, dcs7, dcs4, gt3, Heap.lt gt3, gt2, Heap.lt gt2, xt3.2, xt3.ltT, xt3.leT, dcu8, dcz, dcz1, dcz0, dczt, dcw], by repeat (first | exact Ext.refl _ _ | assumption | refine Ext.push ?_ _ | ((refine Ext.set ?_ ?_ _); rotate_left; · (simp (maxSteps := 3000000) (maxDischargeDepth := 12) only [push_cast, appendX, Nat.reduceAdd, Nat.reduceEqDiff, Nat.reduceLT, Nat.reduceLeDiff, reduceIte, reduceCtorEq, dc8, dc88, dcall, dcg0, dcg1, dcg2, dcv0, dcv1, dcv4, dcv6, dcv7, dcs5, dcs6, dcs7, dcs4, gt3, Heap.lt gt3, gt2, Heap.lt gt2, xt3.2, xt3.ltT, xt3.leT, dcu8, dcz, dcz1, dcz0, dczt, dcw])) | ((refine Ext.then1 (by assumption) ?_ ?_); rotate_left; · (intro p hp _; first | assumption | exact List.mem_cons_of_mem _ hp | (cases hp; done) | (simp at hp; subst hp; simp)))), by (simp only [push_cast, TellsL, tells_any, tells_refl])⟩
theorem u8_inv {n : Int} (h : 0 ≤ n ∧ n < 256) : ((UInt8.ofNat n.toNat).toNat : Int) = n := by
  simp [UInt8.toNat_ofNat']; omega
theorem str_eq {a b : List Int} (ha : Octs a) (hb : Octs b) : ((strOfNums a).toList == (strOfNums b).toList) = decide (a = b) := by
  rw [ByteArray.toList_eq, ByteArray.toList_eq, strOfNums_data, strOfNums_data]
  have inv : ∀ {l : List Int}, Octs l → (l.map fun n => UInt8.ofNat n.toNat).map (fun u => (u.toNat : Int)) = l := fun {l} hl => by
    rw [List.map_map]
    conv => rhs; rw [← List.map_id l]
    exact List.map_congr_left (fun n hn => u8_inv (hl n hn))
  by_cases h : a = b
  · subst h; simp
  · rw [decide_eq_false h]
    simp only [beq_eq_false_iff_ne, ne_eq]
    intro he
    have := congrArg (List.map fun u : UInt8 => (u.toNat : Int)) he
    rw [inv ha, inv hb] at this
    exact h this
theorem rdA_take {l : List Int} (hl : 88 ≤ l.length) : rdA (l.take 88) 8 = rdA l 8 := by
  have h : ∀ j, j < 16 → vl (l.take 88) j = vl l j := fun j hj => by
    have h1 := bnd_le (j + 1) (by omega)
    have h2 := bnd_step j
    rw [vl_good j (by rw [List.length_take]; omega), vl_good j (by omega)]
    congr 1
    rw [List.drop_take, List.take_take]
    congr 1; omega
  simp only [rdA, frw, h 0 (by decide), h 1 (by decide), h 2 (by decide), h 4 (by decide), h 5 (by decide), h 6 (by decide), h 7 (by decide), h 8 (by decide), h 9 (by decide), h 10 (by decide), h 11 (by decide), h 12 (by decide), h 13 (by decide), h 14 (by decide), h 15 (by decide)]
theorem chs_succ (b : List Int) (i : Nat) : chs b (i + 1) = chs b i ++ [rdA (b.drop (88 * i)) 8] := by simp [chs, List.range_succ]
theorem chs_length (b : List Int) (i : Nat) : (chs b i).length = i := by simp [chs]
def rdI (b : List Int) (σ0 : Heap) (m : Nat) (ts : List DV) (σ : Heap) : Prop := ∃ (i : Nat) (z : Int) (d : DV), m = b.length / 88 + 1 - i ∧ i ≤ b.length / 88 ∧ z = 88 * i ∧ Hold σ d 42 ((chs b i).map eA) ∧ (∀ q ∈ tOf d, σ0.n ≤ q) ∧ Ext [] σ0 σ ∧ TellsL ts (.imm (bytesD b) :: .any :: .any :: .any :: d :: .sc (.int .i64 z) :: .any :: .any :: .any :: .any :: .any :: .any :: .any :: .any :: .any :: .any :: .any :: .any :: .any :: .any :: .any :: .any :: .any :: .any :: .any :: .any :: .any :: .any :: .any :: .any :: .any :: .any :: .any :: .any :: .any :: .any :: .any :: .any :: .any :: .any :: .any :: .any :: .any :: .any :: .any :: .any :: .any :: [])
theorem rdecode_ok (σ : Heap) (b : List Int) (ho : Octs b) (hb : b.length ≤ 1000000) : ACalls Try.prog 28 [.imm (bytesD b)] σ (fun x σ' => x = .tup [.imm ((rdecT b).1.map eA), .sc (.int .i64 (rdecT b).2)] ∧ Ext [] σ σ') := by
  have dcml : (bytesD b).length = b.length := bytesD_length _
  have dcall := bytes_all b
  obtain ⟨r, dcrem⟩ : ∃ r : Int, Int.tmod (b.length : Int) 88 = r := ⟨_, rfl⟩
  have hr : r = (b.length : Int) % 88 := by rw [← dcrem]; exact Int.tmod_eq_emod_of_nonneg (by omega)
  have hsl : ∀ a n : Nat, ((bytesD b).take (a + n)).drop a = bytesD ((b.drop a).take n) := fun a n => by
    rw [bytesD_take, bytesD_drop, List.drop_take]; congr 2; omega
  refine ACalls.tells ?_
  refine ACalls.code hT Try.func28 rfl ?_
  simp only [Try.ntmps28, List.length_cons, List.length_nil, Nat.reduceSub, Nat.reduceAdd, List.replicate, List.cons_append, List.nil_append]
  by_cases hbad : b.length % 88 ≠ 0 ∨ 5632 < b.length
  · have e1 : rdecT b = ([], 5) := by rw [rdecT, if_pos hbad]
    rw [e1]
    by_cases hr0 : r = 0
    · have dcr : (r == 0) = true := by simpa using hr0
      have dch : decide (5632 < (b.length : Int)) = true := decide_eq_true (by omega)
      clear hr0 hbad
      repeat (first | (with_reducible refine AW.seq ?_) | (with_reducible refine AW.block ?_) | (with_reducible refine AW.skip ?_) | (with_reducible refine AW.ret ?_) | (with_reducible refine AW.exit ?_) | (with_reducible refine AW.reg hT ?_) | ((with_reducible refine AW.cond_true ?_ ?_); · rfl) | ((with_reducible refine AW.cond_false ?_ ?_); · rfl) | simp (maxSteps := 3000000) (maxDischargeDepth := 12) only [push_cast,appendX,reduceIte,reduceCtorEq,Nat.reduceSub,Nat.reduceAdd,Nat.reduceMul,Nat.reduceLT,Nat.reduceLeDiff,Nat.reduceEqDiff,Nat.reduceBEq,Int.reduceToNat,Int.reduceLT,Int.reduceLE,Int.reduceEq,Int.reduceNeg,Try.results28,dcml,dcall,dcrem,dcr,dch])
      exact ⟨.tup [.imm [], .sc (.int .i64 5)], Tells.tup ⟨Tells.nil, Tells.refl _, trivial⟩, rfl, Ext.refl _ _⟩
    · have dcr : (r == 0) = false := by simpa using hr0
      repeat (first | (with_reducible refine AW.seq ?_) | (with_reducible refine AW.block ?_) | (with_reducible refine AW.skip ?_) | (with_reducible refine AW.ret ?_) | (with_reducible refine AW.exit ?_) | (with_reducible refine AW.reg hT ?_) | ((with_reducible refine AW.cond_true ?_ ?_); · rfl) | ((with_reducible refine AW.cond_false ?_ ?_); · rfl) | simp (maxSteps := 3000000) (maxDischargeDepth := 12) only [push_cast,appendX,reduceIte,reduceCtorEq,Nat.reduceSub,Nat.reduceAdd,Nat.reduceMul,Nat.reduceLT,Nat.reduceLeDiff,Nat.reduceEqDiff,Nat.reduceBEq,Int.reduceToNat,Int.reduceLT,Int.reduceLE,Int.reduceEq,Int.reduceNeg,Try.results28,dcml,dcall,dcrem,dcr])
      exact ⟨.tup [.imm [], .sc (.int .i64 5)], Tells.tup ⟨Tells.nil, Tells.refl _, trivial⟩, rfl, Ext.refl _ _⟩
  have dch : decide (5632 < (b.length : Int)) = false := decide_eq_false (by omega)
  have hm0 : b.length % 88 = 0 := by omega
  have dcr : (r == 0) = true := by simp; omega
  repeat (first | (with_reducible refine AW.seq ?_) | (with_reducible refine AW.block ?_) | (with_reducible refine AW.skip ?_) | (with_reducible refine AW.ret ?_) | (with_reducible refine AW.exit ?_) | (with_reducible refine AW.reg hT ?_) | ((with_reducible refine AW.cond_true ?_ ?_); · rfl) | ((with_reducible refine AW.cond_false ?_ ?_); · rfl) | simp (maxSteps := 3000000) (maxDischargeDepth := 12) only [push_cast,appendX,reduceIte,reduceCtorEq,Nat.reduceSub,Nat.reduceAdd,Nat.reduceMul,Nat.reduceLT,Nat.reduceLeDiff,Nat.reduceEqDiff,Nat.reduceBEq,Int.reduceToNat,Int.reduceLT,Int.reduceLE,Int.reduceEq,Int.reduceNeg,Try.results28,dcml,dcall,dcrem,dch,dcr])
  refine AW.loop (rdI b σ) (m := b.length / 88 + 1) ⟨0, 0, .sc (.slice none 0 0), rfl, Nat.zero_le _, rfl, Hold.nil _ _, by simp [tOf], Ext.refl _ _, by (simp only [push_cast, TellsL, tells_any, tells_refl])⟩ ?_
  rintro m ts σ3 ⟨i, z, d, rfl, hil, hz, hh, hnew, xt3, hts⟩
  refine AW.told hts ?_
  clear hts
  by_cases hi : i < b.length / 88
  · have dcz : decide (z < (b.length : Int)) = true := by simp; omega
    have dct1 : z.toNat = 88 * i := by omega
    have dct2 : (z + 88).toNat = 88 * i + 88 := by omega
    have dcw : IntKind.i64.wrap (z + 88) = z + 88 := wrap_i64 (by omega) (by omega)
    have dcp1 : (0 ≤ z) = True := eq_true (by omega)
    have dcp2 : (z ≤ z + 88) = True := eq_true (by omega)
    have dcp3 : (z + 88 ≤ (b.length : Int)) = True := eq_true (by omega)
    have dcs := hsl (88 * i) 88
    repeat (first | (with_reducible refine AW.seq ?_) | (with_reducible refine AW.block ?_) | (with_reducible refine AW.skip ?_) | (with_reducible refine AW.ret ?_) | (with_reducible refine AW.exit ?_) | (with_reducible refine AW.reg hT ?_) | ((with_reducible refine AW.cond_true ?_ ?_); · rfl) | ((with_reducible refine AW.cond_false ?_ ?_); · rfl) | simp (maxSteps := 3000000) (maxDischargeDepth := 12) only [push_cast,appendX,reduceIte,reduceCtorEq,Nat.reduceSub,Nat.reduceAdd,Nat.reduceMul,Nat.reduceLT,Nat.reduceLeDiff,Nat.reduceEqDiff,Nat.reduceBEq,Int.reduceToNat,Int.reduceLT,Int.reduceLE,Int.reduceEq,Int.reduceNeg,Try.results28,dcml,dcall,dcrem,dch,dcr,xt3.2,xt3.ltT,xt3.leT,dcz,dct1,dct2,dcw,dcp1,dcp2,dcp3,dcs])
    refine AOpsL.call (first := []) (cap := []) hT rfl rfl rfl fn42 rfl (ACalls.mono (guess_ok _ _ (by rw [List.length_take, List.length_drop]; omega) ((ho.drop _).take _)) ?_)
    rintro y σ4 ⟨rfl, xt4⟩
    rw [rdA_take (by rw [List.length_drop]; omega)]
    have hch := chs_succ b i
    have hcl := chs_length b i
    generalize rdA (b.drop (88 * i)) 8 = y at hch ⊢
    obtain ⟨d5, σ5, dnapp, hh5, hnew5, xt5⟩ := Hold.app1 (ty := 25) (x := eA y) (hh.frame (X := []) xt4 (by simp)) hnew (xt3.trans xt4) rfl rfl (by decide) rfl (by simp [hcl]; omega)
    simp only [eA_eq] at dnapp
    simp only [eA_eq]
    repeat (first | (with_reducible refine AW.seq ?_) | (with_reducible refine AW.block ?_) | (with_reducible refine AW.skip ?_) | (with_reducible refine AW.ret ?_) | (with_reducible refine AW.exit ?_) | (with_reducible refine AW.reg hT ?_) | ((with_reducible refine AW.cond_true ?_ ?_); · rfl) | ((with_reducible refine AW.cond_false ?_ ?_); · rfl) | simp (maxSteps := 3000000) (maxDischargeDepth := 12) only [push_cast,appendX,reduceIte,reduceCtorEq,Nat.reduceSub,Nat.reduceAdd,Nat.reduceMul,Nat.reduceLT,Nat.reduceLeDiff,Nat.reduceEqDiff,Nat.reduceBEq,Int.reduceToNat,Int.reduceLT,Int.reduceLE,Int.reduceEq,Int.reduceNeg,Try.results28,dcml,dcall,dcrem,dch,dcr,xt3.2,xt3.ltT,xt3.leT,dcz,dct1,dct2,dcw,dcp1,dcp2,dcp3,dcs,xt4.2,xt4.ltT,xt4.leT,↓dnapp,xt5.2,xt5.ltT,xt5.leT])
    exact ⟨b.length / 88 + 1 - (i + 1), by omega, i + 1, z + 88, d5, rfl, by omega, by omega, by rw [hch, List.map_append]; exact hh5, hnew5, xt5, by (simp only [push_cast, TellsL, tells_any, tells_refl])⟩
  · have dcz : decide (z < (b.length : Int)) = false := by simp; omega
    have he : i = b.length / 88 := by omega
    subst he
    refine AW.holdSlot (j := 4) hh rfl (fun σ4 xt4 => ?_)
    have xt5 : Ext [] σ σ4 := xt3.then xt4 (fun q hq hl => absurd (hnew q hq) (by omega))
    clear xt3 xt4 hh
    simp only [List.set_cons_succ, List.set_cons_zero]
    repeat (first | (with_reducible refine AW.seq ?_) | (with_reducible refine AW.block ?_) | (with_reducible refine AW.skip ?_) | (with_reducible refine AW.ret ?_) | (with_reducible refine AW.exit ?_) | (with_reducible refine AW.reg hT ?_) | ((with_reducible refine AW.cond_true ?_ ?_); · rfl) | ((with_reducible refine AW.cond_false ?_ ?_); · rfl) | simp (maxSteps := 3000000) (maxDischargeDepth := 12) only [push_cast,appendX,reduceIte,reduceCtorEq,Nat.reduceSub,Nat.reduceAdd,Nat.reduceMul,Nat.reduceLT,Nat.reduceLeDiff,Nat.reduceEqDiff,Nat.reduceBEq,Int.reduceToNat,Int.reduceLT,Int.reduceLE,Int.reduceEq,Int.reduceNeg,Try.results28,dcml,dcall,dcrem,dch,dcr,dcz,xt5.2,xt5.ltT,xt5.leT])
    refine AOpsL.call (first := []) (cap := []) hT rfl rfl rfl fn26 rfl (ACalls.mono (rencode_ok _ _ (chs_wf ho _)) ?_)
    rintro y σ6 ⟨rfl, xt6⟩
    have hxo := encT_octs (chs b (b.length / 88))
    have e1 : rdecT b = if encT (chs b (b.length / 88)) = (b, 0) then (chs b (b.length / 88), 0) else ([], 5) := by rw [rdecT, if_neg hbad]
    rw [e1]
    generalize chs b (b.length / 88) = o at hxo ⊢
    obtain ⟨⟨x, e⟩, hxe⟩ : ∃ p, encT o = p := ⟨_, rfl⟩
    rw [hxe] at hxo ⊢
    simp only at hxo ⊢
    have xt7 := xt5.trans xt6
    by_cases he : e = 0
    · have dce : (e == 0) = true := by simpa using he
      have dcs := str_eq hxo ho
      by_cases hxb : x = b
      · have dcxb : decide (x = b) = true := decide_eq_true hxb
        repeat (first | (with_reducible refine AW.seq ?_) | (with_reducible refine AW.block ?_) | (with_reducible refine AW.skip ?_) | (with_reducible refine AW.ret ?_) | (with_reducible refine AW.exit ?_) | (with_reducible refine AW.reg hT ?_) | ((with_reducible refine AW.cond_true ?_ ?_); · rfl) | ((with_reducible refine AW.cond_false ?_ ?_); · rfl) | simp (maxSteps := 3000000) (maxDischargeDepth := 12) only [push_cast,appendX,reduceIte,reduceCtorEq,Nat.reduceSub,Nat.reduceAdd,Nat.reduceMul,Nat.reduceLT,Nat.reduceLeDiff,Nat.reduceEqDiff,Nat.reduceBEq,Int.reduceToNat,Int.reduceLT,Int.reduceLE,Int.reduceEq,Int.reduceNeg,Try.results28,dcml,dcall,dcrem,dch,dcr,dcz,xt5.2,xt5.ltT,xt5.leT,xt6.2,xt6.ltT,xt6.leT,xt7.2,xt7.ltT,xt7.leT,dce,dcs,dcxb])
        exact ⟨.tup [.imm (o.map eA), .sc (.int .i64 0)], Tells.refl _, by rw [if_pos (by rw [hxb, he])], xt7⟩
      · have dcxb : decide (x = b) = false := decide_eq_false hxb
        repeat (first | (with_reducible refine AW.seq ?_) | (with_reducible refine AW.block ?_) | (with_reducible refine AW.skip ?_) | (with_reducible refine AW.ret ?_) | (with_reducible refine AW.exit ?_) | (with_reducible refine AW.reg hT ?_) | ((with_reducible refine AW.cond_true ?_ ?_); · rfl) | ((with_reducible refine AW.cond_false ?_ ?_); · rfl) | simp (maxSteps := 3000000) (maxDischargeDepth := 12) only [push_cast,appendX,reduceIte,reduceCtorEq,Nat.reduceSub,Nat.reduceAdd,Nat.reduceMul,Nat.reduceLT,Nat.reduceLeDiff,Nat.reduceEqDiff,Nat.reduceBEq,Int.reduceToNat,Int.reduceLT,Int.reduceLE,Int.reduceEq,Int.reduceNeg,Try.results28,dcml,dcall,dcrem,dch,dcr,dcz,xt5.2,xt5.ltT,xt5.leT,xt6.2,xt6.ltT,xt6.leT,xt7.2,xt7.ltT,xt7.leT,dce,dcs,dcxb])
        exact ⟨.tup [.imm [], .sc (.int .i64 5)], Tells.tup ⟨Tells.nil, Tells.refl _, trivial⟩, by rw [if_neg (fun h => hxb (congrArg Prod.fst h))]; rfl, xt7⟩
    · have dce : (e == 0) = false := by simpa using he
      repeat (first | (with_reducible refine AW.seq ?_) | (with_reducible refine AW.block ?_) | (with_reducible refine AW.skip ?_) | (with_reducible refine AW.ret ?_) | (with_reducible refine AW.exit ?_) | (with_reducible refine AW.reg hT ?_) | ((with_reducible refine AW.cond_true ?_ ?_); · rfl) | ((with_reducible refine AW.cond_false ?_ ?_); · rfl) | simp (maxSteps := 3000000) (maxDischargeDepth := 12) only [push_cast,appendX,reduceIte,reduceCtorEq,Nat.reduceSub,Nat.reduceAdd,Nat.reduceMul,Nat.reduceLT,Nat.reduceLeDiff,Nat.reduceEqDiff,Nat.reduceBEq,Int.reduceToNat,Int.reduceLT,Int.reduceLE,Int.reduceEq,Int.reduceNeg,Try.results28,dcml,dcall,dcrem,dch,dcr,dcz,xt5.2,xt5.ltT,xt5.leT,xt6.2,xt6.ltT,xt6.leT,xt7.2,xt7.ltT,xt7.leT,dce])
      exact ⟨.tup [.imm [], .sc (.int .i64 5)], Tells.tup ⟨Tells.nil, Tells.refl _, trivial⟩, by rw [if_neg (fun h => he (congrArg Prod.snd h))]; rfl, xt7⟩
theorem bytes_ok (l : List Ad) (b : List Int) (h : l.length ≤ maxLen ∧ ∀ y ∈ l, wA y) (hb : b.length ≤ maxLen ∧ ∀ y ∈ b, (Lit.int .u8 y).wf = true) (hy : b.length * 1 ≤ 140737488351232) : ACalls Try.prog 8 [.imm (l.map eA), .imm (b.map (fun n : Int => [DV.sc (.int .u8 n)]))] ⟨[]⟩ (fun x _ => x = .sc (.bool true)) := by
  generalize (⟨[]⟩ : Heap) = σ
  have ho : Octs b := fun d hd => by have := wf_u8 (hb.2 d hd); omega
  have dcb : (bytesD b).length = b.length := bytesD_length _
  have dcml : (l.map eA).length = l.length := by simp
  show ACalls Try.prog 8 [.imm (l.map eA), .imm (bytesD b)] σ (fun x _ => x = .sc (.bool true))
  refine ACalls.code hT Try.func8 rfl ?_
  simp only [Try.ntmps8, List.length_cons, List.length_nil, Nat.reduceSub, Nat.reduceAdd, List.replicate, List.cons_append, List.nil_append]
  repeat (first | (with_reducible refine AW.seq ?_) | (with_reducible refine AW.block ?_) | (with_reducible refine AW.skip ?_) | (with_reducible refine AW.ret ?_) | (with_reducible refine AW.exit ?_) | (with_reducible refine AW.reg hT ?_) | ((with_reducible refine AW.cond_true ?_ ?_); · rfl) | ((with_reducible refine AW.cond_false ?_ ?_); · rfl) | simp (maxSteps := 3000000) (maxDischargeDepth := 12) only [push_cast,appendX,reduceIte,reduceCtorEq,Nat.reduceSub,Nat.reduceAdd,Nat.reduceMul,Nat.reduceLT,Nat.reduceLeDiff,Nat.reduceEqDiff,Nat.reduceBEq,Int.reduceToNat,Int.reduceLT,Int.reduceLE,Int.reduceEq,Int.reduceNeg,Try.results8,dcb,dcml])
  refine AOpsL.call (first := []) (cap := []) hT rfl rfl rfl fn10 rfl (ACalls.mono (alive_ok _) ?_)
  rintro y σ1 ⟨rfl, xt1⟩
  by_cases h1 : 100 < l.length
  · have dc1 : decide (100 < (l.length : Int)) = true := by simp; omega
    repeat (first | (with_reducible refine AW.seq ?_) | (with_reducible refine AW.block ?_) | (with_reducible refine AW.skip ?_) | (with_reducible refine AW.ret ?_) | (with_reducible refine AW.exit ?_) | (with_reducible refine AW.reg hT ?_) | ((with_reducible refine AW.cond_true ?_ ?_); · rfl) | ((with_reducible refine AW.cond_false ?_ ?_); · rfl) | simp (maxSteps := 3000000) (maxDischargeDepth := 12) only [push_cast,appendX,reduceIte,reduceCtorEq,Nat.reduceSub,Nat.reduceAdd,Nat.reduceMul,Nat.reduceLT,Nat.reduceLeDiff,Nat.reduceEqDiff,Nat.reduceBEq,Int.reduceToNat,Int.reduceLT,Int.reduceLE,Int.reduceEq,Int.reduceNeg,Try.results8,dcb,dcml,xt1.2,xt1.ltT,xt1.leT,dc1])
  have dc1 : decide (100 < (l.length : Int)) = false := by simp; omega
  by_cases h2 : 9000 < b.length
  · have dc2 : decide (9000 < (b.length : Int)) = true := by simp; omega
    repeat (first | (with_reducible refine AW.seq ?_) | (with_reducible refine AW.block ?_) | (with_reducible refine AW.skip ?_) | (with_reducible refine AW.ret ?_) | (with_reducible refine AW.exit ?_) | (with_reducible refine AW.reg hT ?_) | ((with_reducible refine AW.cond_true ?_ ?_); · rfl) | ((with_reducible refine AW.cond_false ?_ ?_); · rfl) | simp (maxSteps := 3000000) (maxDischargeDepth := 12) only [push_cast,appendX,reduceIte,reduceCtorEq,Nat.reduceSub,Nat.reduceAdd,Nat.reduceMul,Nat.reduceLT,Nat.reduceLeDiff,Nat.reduceEqDiff,Nat.reduceBEq,Int.reduceToNat,Int.reduceLT,Int.reduceLE,Int.reduceEq,Int.reduceNeg,Try.results8,dcb,dcml,xt1.2,xt1.ltT,xt1.leT,dc1,dc2])
  have dc2 : decide (9000 < (b.length : Int)) = false := by simp; omega
  repeat (first | (with_reducible refine AW.seq ?_) | (with_reducible refine AW.block ?_) | (with_reducible refine AW.skip ?_) | (with_reducible refine AW.ret ?_) | (with_reducible refine AW.exit ?_) | (with_reducible refine AW.reg hT ?_) | ((with_reducible refine AW.cond_true ?_ ?_); · rfl) | ((with_reducible refine AW.cond_false ?_ ?_); · rfl) | simp (maxSteps := 3000000) (maxDischargeDepth := 12) only [push_cast,appendX,reduceIte,reduceCtorEq,Nat.reduceSub,Nat.reduceAdd,Nat.reduceMul,Nat.reduceLT,Nat.reduceLeDiff,Nat.reduceEqDiff,Nat.reduceBEq,Int.reduceToNat,Int.reduceLT,Int.reduceLE,Int.reduceEq,Int.reduceNeg,Try.results8,dcb,dcml,xt1.2,xt1.ltT,xt1.leT,dc1,dc2])
  refine AOpsL.call (first := []) (cap := []) hT rfl rfl rfl fn25 rfl (ACalls.mono (lall_ok _ l (by omega)) ?_)
  rintro y σ2 ⟨rfl, xt2⟩
  repeat (first | (with_reducible refine AW.seq ?_) | (with_reducible refine AW.block ?_) | (with_reducible refine AW.skip ?_) | (with_reducible refine AW.ret ?_) | (with_reducible refine AW.exit ?_) | (with_reducible refine AW.reg hT ?_) | ((with_reducible refine AW.cond_true ?_ ?_); · rfl) | ((with_reducible refine AW.cond_false ?_ ?_); · rfl) | simp (maxSteps := 3000000) (maxDischargeDepth := 12) only [push_cast,appendX,reduceIte,reduceCtorEq,Nat.reduceSub,Nat.reduceAdd,Nat.reduceMul,Nat.reduceLT,Nat.reduceLeDiff,Nat.reduceEqDiff,Nat.reduceBEq,Int.reduceToNat,Int.reduceLT,Int.reduceLE,Int.reduceEq,Int.reduceNeg,Try.results8,dcb,dcml,xt1.2,xt1.ltT,xt1.leT,dc1,dc2,xt2.2,xt2.ltT,xt2.leT])
  refine AOpsL.call (first := []) (cap := []) hT rfl rfl rfl fn24 rfl (ACalls.mono (tencode_ok _ l h.2) ?_)
  rintro y σ3 ⟨rfl, xt3⟩
  repeat (first | (with_reducible refine AW.seq ?_) | (with_reducible refine AW.block ?_) | (with_reducible refine AW.skip ?_) | (with_reducible refine AW.ret ?_) | (with_reducible refine AW.exit ?_) | (with_reducible refine AW.reg hT ?_) | ((with_reducible refine AW.cond_true ?_ ?_); · rfl) | ((with_reducible refine AW.cond_false ?_ ?_); · rfl) | simp (maxSteps := 3000000) (maxDischargeDepth := 12) only [push_cast,appendX,reduceIte,reduceCtorEq,Nat.reduceSub,Nat.reduceAdd,Nat.reduceMul,Nat.reduceLT,Nat.reduceLeDiff,Nat.reduceEqDiff,Nat.reduceBEq,Int.reduceToNat,Int.reduceLT,Int.reduceLE,Int.reduceEq,Int.reduceNeg,Try.results8,dcb,dcml,xt1.2,xt1.ltT,xt1.leT,dc1,dc2,xt2.2,xt2.ltT,xt2.leT,xt3.2,xt3.ltT,xt3.leT])
  refine AOpsL.call (first := []) (cap := []) hT rfl rfl rfl fn26 rfl (ACalls.mono (rencode_ok _ l h.2) ?_)
  rintro y σ4 ⟨rfl, xt4⟩
  repeat (first | (with_reducible refine AW.seq ?_) | (with_reducible refine AW.block ?_) | (with_reducible refine AW.skip ?_) | (with_reducible refine AW.ret ?_) | (with_reducible refine AW.exit ?_) | (with_reducible refine AW.reg hT ?_) | ((with_reducible refine AW.cond_true ?_ ?_); · rfl) | ((with_reducible refine AW.cond_false ?_ ?_); · rfl) | simp (maxSteps := 3000000) (maxDischargeDepth := 12) only [push_cast,appendX,reduceIte,reduceCtorEq,Nat.reduceSub,Nat.reduceAdd,Nat.reduceMul,Nat.reduceLT,Nat.reduceLeDiff,Nat.reduceEqDiff,Nat.reduceBEq,Int.reduceToNat,Int.reduceLT,Int.reduceLE,Int.reduceEq,Int.reduceNeg,Try.results8,dcb,dcml,xt1.2,xt1.ltT,xt1.leT,dc1,dc2,xt2.2,xt2.ltT,xt2.leT,xt3.2,xt3.ltT,xt3.leT,xt4.2,xt4.ltT,xt4.leT])
  refine AOpsL.call (first := []) (cap := []) hT rfl rfl rfl fn27 rfl (ACalls.mono (pdecode_ok _ b ho (by omega)) ?_)
  rintro y σ5 ⟨rfl, xt5⟩
  repeat (first | (with_reducible refine AW.seq ?_) | (with_reducible refine AW.block ?_) | (with_reducible refine AW.skip ?_) | (with_reducible refine AW.ret ?_) | (with_reducible refine AW.exit ?_) | (with_reducible refine AW.reg hT ?_) | ((with_reducible refine AW.cond_true ?_ ?_); · rfl) | ((with_reducible refine AW.cond_false ?_ ?_); · rfl) | simp (maxSteps := 3000000) (maxDischargeDepth := 12) only [push_cast,appendX,reduceIte,reduceCtorEq,Nat.reduceSub,Nat.reduceAdd,Nat.reduceMul,Nat.reduceLT,Nat.reduceLeDiff,Nat.reduceEqDiff,Nat.reduceBEq,Int.reduceToNat,Int.reduceLT,Int.reduceLE,Int.reduceEq,Int.reduceNeg,Try.results8,dcb,dcml,xt1.2,xt1.ltT,xt1.leT,dc1,dc2,xt2.2,xt2.ltT,xt2.leT,xt3.2,xt3.ltT,xt3.leT,xt4.2,xt4.ltT,xt4.leT,xt5.2,xt5.ltT,xt5.leT])
  refine AOpsL.call (first := []) (cap := []) hT rfl rfl rfl fn28 rfl (ACalls.mono (rdecode_ok _ b ho (by omega)) ?_)
  rw [rdecT_eq ho]
  rintro y σ6 ⟨rfl, xt6⟩
  have hdl : (decT b).1.length ≤ 1000000 := by
    by_cases he : (decT b).2 = 0
    · have := (decT_ok ho he).2.2; omega
    · rw [decT_err he]; simp
  repeat (first | (with_reducible refine AW.seq ?_) | (with_reducible refine AW.block ?_) | (with_reducible refine AW.skip ?_) | (with_reducible refine AW.ret ?_) | (with_reducible refine AW.exit ?_) | (with_reducible refine AW.reg hT ?_) | ((with_reducible refine AW.cond_true ?_ ?_); · rfl) | ((with_reducible refine AW.cond_false ?_ ?_); · rfl) | simp (maxSteps := 3000000) (maxDischargeDepth := 12) only [push_cast,appendX,reduceIte,reduceCtorEq,Nat.reduceSub,Nat.reduceAdd,Nat.reduceMul,Nat.reduceLT,Nat.reduceLeDiff,Nat.reduceEqDiff,Nat.reduceBEq,Int.reduceToNat,Int.reduceLT,Int.reduceLE,Int.reduceEq,Int.reduceNeg,Try.results8,dcb,dcml,xt1.2,xt1.ltT,xt1.leT,dc1,dc2,xt2.2,xt2.ltT,xt2.leT,xt3.2,xt3.ltT,xt3.leT,xt4.2,xt4.ltT,xt4.leT,xt5.2,xt5.ltT,xt5.leT,xt6.2,xt6.ltT,xt6.leT])
  refine AOpsL.call (first := []) (cap := []) hT rfl rfl rfl fn18 rfl (ACalls.mono (ours_ok _ _ hdl) ?_)
  rintro y σ7 ⟨rfl, xt7⟩
  repeat (first | (with_reducible refine AW.seq ?_) | (with_reducible refine AW.block ?_) | (with_reducible refine AW.skip ?_) | (with_reducible refine AW.ret ?_) | (with_reducible refine AW.exit ?_) | (with_reducible refine AW.reg hT ?_) | ((with_reducible refine AW.cond_true ?_ ?_); · rfl) | ((with_reducible refine AW.cond_false ?_ ?_); · rfl) | simp (maxSteps := 3000000) (maxDischargeDepth := 12) only [push_cast,appendX,reduceIte,reduceCtorEq,Nat.reduceSub,Nat.reduceAdd,Nat.reduceMul,Nat.reduceLT,Nat.reduceLeDiff,Nat.reduceEqDiff,Nat.reduceBEq,Int.reduceToNat,Int.reduceLT,Int.reduceLE,Int.reduceEq,Int.reduceNeg,Try.results8,dcb,dcml,xt1.2,xt1.ltT,xt1.leT,dc1,dc2,xt2.2,xt2.ltT,xt2.leT,xt3.2,xt3.ltT,xt3.leT,xt4.2,xt4.ltT,xt4.leT,xt5.2,xt5.ltT,xt5.leT,xt6.2,xt6.ltT,xt6.leT,xt7.2,xt7.ltT,xt7.leT])
  refine AOpsL.call (first := []) (cap := []) hT rfl rfl rfl fn17 rfl (ACalls.mono (same_ok _ _ hdl) ?_)
  rintro y σ8 ⟨rfl, xt8⟩
  repeat (first | (with_reducible refine AW.seq ?_) | (with_reducible refine AW.block ?_) | (with_reducible refine AW.skip ?_) | (with_reducible refine AW.ret ?_) | (with_reducible refine AW.exit ?_) | (with_reducible refine AW.reg hT ?_) | ((with_reducible refine AW.cond_true ?_ ?_); · rfl) | ((with_reducible refine AW.cond_false ?_ ?_); · rfl) | simp (maxSteps := 3000000) (maxDischargeDepth := 12) only [push_cast,appendX,reduceIte,reduceCtorEq,Nat.reduceSub,Nat.reduceAdd,Nat.reduceMul,Nat.reduceLT,Nat.reduceLeDiff,Nat.reduceEqDiff,Nat.reduceBEq,Int.reduceToNat,Int.reduceLT,Int.reduceLE,Int.reduceEq,Int.reduceNeg,Try.results8,dcb,dcml,xt1.2,xt1.ltT,xt1.leT,dc1,dc2,xt2.2,xt2.ltT,xt2.leT,xt3.2,xt3.ltT,xt3.leT,xt4.2,xt4.ltT,xt4.leT,xt5.2,xt5.ltT,xt5.leT,xt6.2,xt6.ltT,xt6.leT,xt7.2,xt7.ltT,xt7.leT,xt8.2,xt8.ltT,xt8.leT])
end Go.Proofs.Ytkcccomdamdocaa.Cm
