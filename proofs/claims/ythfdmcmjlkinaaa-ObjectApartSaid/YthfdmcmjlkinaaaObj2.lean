/- Package object, and the document's: Decode. -/
import Derived.Test.YthfdmcmjlkinaaaObj1
namespace Go.Proofs.Ythfdmcmjlkinaaa.Cm
open Go.RowKit
set_option linter.unusedVariables false
set_option linter.unusedSimpArgs false
set_option maxRecDepth 20000
set_option maxHeartbeats 8000000
/-- What bytes tell, behind what was told. -/
def decGo : Nat → List Int → List Ob → List Ob × Int
  | 0, _, _ => ([], 0)
  | _ + 1, [], acc => (acc, 0)
  | f + 1, a :: b :: c :: t :: r, acc => if acc.length = 32 then ([], 3) else if num [a, b] < 4 ∨ num [a, b] % 4 ≠ 0 then ([], 5) else if (r.length : Int) < num [a, b] - 4 then ([], 4) else decGo f (r.drop (num [a, b] - 4).toNat) (acc ++ [⟨c, t, r.take (num [a, b] - 4).toNat⟩])
  | _ + 1, _ :: _, acc => if acc.length = 32 then ([], 3) else ([], 4)
def decO (b : List Int) : List Ob × Int := if 4096 < b.length then ([], 3) else decGo (b.length + 1) b []
theorem decGo_short {f : Nat} {r : List Int} {acc : List Ob} (h0 : r ≠ []) (h : r.length < 4) : decGo (f + 1) r acc = if acc.length = 32 then ([], 3) else ([], 4) := by
  match r with
  | [] => exact absurd rfl h0
  | [a] => rfl
  | [a, b] => rfl
  | [a, b, c] => rfl
  | a :: b :: c :: d :: r => simp at h; omega
theorem tk_yes {l : List Int} {n : Nat} (h : n ≤ l.length) : tk l 0 n true = (l.drop n, 0, l.take n) := by
  have : ¬ (l.length : Int) < n := by omega
  simp [tk, this]
theorem num1 (c : Int) : num [c] = c := by simp [num]
theorem num2 (a b : Int) : num [a, b] = a * 256 + b := by simp [num]
def deI (b : List Int) (p : Nat) (σ0 : Heap) (m : Nat) (ts : List DV) (σ : Heap) : Prop := ∃ f r acc d, m = r.length ∧ decO b = decGo (f + 1) r acc ∧ r.length ≤ f ∧ Octs r ∧ acc.length ≤ 32 ∧ r.length ≤ 4096 ∧ σ.get p = some (ROb r 0) ∧ Hold σ d 44 (acc.map eO) ∧ (∀ q ∈ tOf d, σ0.n ≤ q) ∧ Ext [] σ0 σ ∧ TellsL ts (.any :: .any :: .sc (.slice none 0 0) :: .sc (.int .i64 0) :: d :: .ptr p 0 0 1 :: .any :: .any :: .any :: .any :: .any :: .any :: .any :: .any :: .any :: .any :: .any :: .any :: .any :: .any :: .any :: .any :: .any :: .any :: .any :: .any :: .any :: .any :: .any :: .any :: .any :: .any :: .any :: .any :: .any :: .any :: .any :: .any :: .any :: .any :: .any :: .any :: .any :: .any :: .any :: .any :: .any :: .any :: .any :: .any :: .any :: .any :: .any :: .any :: .any :: .any :: [])
theorem toImmP {P : Program} {σ : Heap} {f : FuncId} {args : List DV} {e : TypeId} {els : List (List DV)} {y : Value} (h : ACalls P f args σ (fun x σ' => ∃ d, x = .tup [d, .sc y] ∧ Hold σ' d e els ∧ (∀ q ∈ tOf d, σ.n ≤ q) ∧ Ext [] σ σ')) : ACalls P f args σ (fun x σ' => x = .tup [.imm els, .sc y] ∧ Ext [] σ σ') := by
  refine ACalls.toImmG (e := e) (els := els) (fun d => .tup [d, .sc y]) ?_ ?_ h
  · intro t m es d d' h
    obtain ⟨h1, h2⟩ := FZL.spec (t := t) (m := m) (els := es) (l := [d, .sc y]) (l' := [d', .sc y]) ⟨h, .keep _, trivial⟩
    exact .tup h1 h2
  · exact Tells.tup ⟨Tells.nil, Tells.refl _, trivial⟩
theorem decode_ok (σ : Heap) (b : List Int) (ho : Octs b) (hb : b.length ≤ 1000000) : ACalls Try.prog 13 [.imm (bytesD b)] σ (fun x σ' => x = .tup [.imm ((decO b).1.map eO), .sc (.int .i64 (decO b).2)] ∧ Ext [] σ σ') := by
  have dcml : (bytesD b).length = b.length := bytesD_length _
  refine toImmP (e := 44) ?_
  refine ACalls.code hT Try.func13 rfl ?_
  simp only [Try.ntmps13, List.length_cons, List.length_nil, Nat.reduceSub, Nat.reduceAdd, List.replicate, List.cons_append, List.nil_append]
  by_cases h4 : 4096 < b.length
  · have dc1 : decide (4096 < (b.length : Int)) = true := by simp; omega
    repeat (first | (with_reducible refine AW.seq ?_) | (with_reducible refine AW.block ?_) | (with_reducible refine AW.skip ?_) | (with_reducible refine AW.ret ?_) | (with_reducible refine AW.exit ?_) | (with_reducible refine AW.reg hT ?_) | ((with_reducible refine AW.cond_true ?_ ?_); · rfl) | ((with_reducible refine AW.cond_false ?_ ?_); · rfl) | simp (maxDischargeDepth := 12) only [push_cast, appendX, reduceIte, reduceCtorEq, Nat.reduceSub, Nat.reduceAdd, Nat.reduceMul, Nat.reduceLT, Nat.reduceLeDiff, Nat.reduceEqDiff, Nat.reduceBEq, Int.reduceToNat, Int.reduceLT, Int.reduceLE, Int.reduceEq, Int.reduceNeg, Try.results13, dcml, dc1])
    have : decO b = ([], 3) := by rw [decO, if_pos h4]
    exact ⟨_, by rw [this], by rw [this]; exact Hold.nil _ _, by simp [tOf], Ext.refl _ _⟩
  · have dc1 : decide (4096 < (b.length : Int)) = false := by simp; omega
    repeat (first | (with_reducible refine AW.seq ?_) | (with_reducible refine AW.block ?_) | (with_reducible refine AW.skip ?_) | (with_reducible refine AW.ret ?_) | (with_reducible refine AW.exit ?_) | (with_reducible refine AW.reg hT ?_) | ((with_reducible refine AW.cond_true ?_ ?_); · rfl) | ((with_reducible refine AW.cond_false ?_ ?_); · rfl) | simp (maxDischargeDepth := 12) only [push_cast, appendX, reduceIte, reduceCtorEq, Nat.reduceSub, Nat.reduceAdd, Nat.reduceMul, Nat.reduceLT, Nat.reduceLeDiff, Nat.reduceEqDiff, Nat.reduceBEq, Int.reduceToNat, Int.reduceLT, Int.reduceLE, Int.reduceEq, Int.reduceNeg, Try.results13, dcml, dc1])
    refine AOpsL.call (first := []) (cap := []) hT rfl rfl rfl fn21 rfl (ACalls.mono (rdnew_ok _ (.imm (bytesD b)) b (Src.imm _ _) hb) ?_)
    rintro x σ1 ⟨p, rfl, hpn, gtp, xt1⟩
    repeat (first | (with_reducible refine AW.seq ?_) | (with_reducible refine AW.block ?_) | (with_reducible refine AW.skip ?_) | (with_reducible refine AW.ret ?_) | (with_reducible refine AW.exit ?_) | (with_reducible refine AW.reg hT ?_) | ((with_reducible refine AW.cond_true ?_ ?_); · rfl) | ((with_reducible refine AW.cond_false ?_ ?_); · rfl) | simp (maxDischargeDepth := 12) only [push_cast, appendX, reduceIte, reduceCtorEq, Nat.reduceSub, Nat.reduceAdd, Nat.reduceMul, Nat.reduceLT, Nat.reduceLeDiff, Nat.reduceEqDiff, Nat.reduceBEq, Int.reduceToNat, Int.reduceLT, Int.reduceLE, Int.reduceEq, Int.reduceNeg, Try.results13, dcml, dc1, gtp, Heap.lt gtp, xt1.2, xt1.ltT, xt1.leT])
    refine AW.loop (deI b p σ) (m := b.length) ⟨b.length, b, [], .sc (.slice none 0 0), rfl, by rw [decO, if_neg h4], Nat.le_refl _, ho, by simp, by omega, gtp, Hold.nil _ _, by simp [tOf], xt1, by (simp only [push_cast, TellsL, tells_any, tells_refl])⟩ ?_
    clear gtp xt1
    rintro m ts σ3 ⟨f, r, acc, d, rfl, hdec, hrf, hor, hacc, hr4, gtr, hh, hnew, xt3, hts⟩
    refine AW.told hts ?_
    clear hts
    have hpd : p ∉ tOf d := hh.ne gtr (by simp [ROb])
    repeat (first | (with_reducible refine AW.seq ?_) | (with_reducible refine AW.block ?_) | (with_reducible refine AW.skip ?_) | (with_reducible refine AW.ret ?_) | (with_reducible refine AW.exit ?_) | (with_reducible refine AW.reg hT ?_) | ((with_reducible refine AW.cond_true ?_ ?_); · rfl) | ((with_reducible refine AW.cond_false ?_ ?_); · rfl) | simp (maxDischargeDepth := 12) only [push_cast, appendX, reduceIte, reduceCtorEq, Nat.reduceSub, Nat.reduceAdd, Nat.reduceMul, Nat.reduceLT, Nat.reduceLeDiff, Nat.reduceEqDiff, Nat.reduceBEq, Int.reduceToNat, Int.reduceLT, Int.reduceLE, Int.reduceEq, Int.reduceNeg, Try.results13, dcml, dc1, gtr, Heap.lt gtr, xt3.2, xt3.ltT, xt3.leT])
    refine AOpsL.call (first := []) (cap := []) hT rfl rfl rfl fn22 rfl (ACalls.mono (left_ok _ gtr) ?_)
    rintro x σ' ⟨rfl, rfl⟩
    by_cases hr0 : r = []
    · subst hr0
      have dcr : decide (0 < (([] : List Int).length : Int)) = false := rfl
      have dncl := hh.cells
      have dnlf := hh.leaf
      repeat (first | (with_reducible refine AW.seq ?_) | (with_reducible refine AW.block ?_) | (with_reducible refine AW.skip ?_) | (with_reducible refine AW.ret ?_) | (with_reducible refine AW.exit ?_) | (with_reducible refine AW.reg hT ?_) | ((with_reducible refine AW.cond_true ?_ ?_); · rfl) | ((with_reducible refine AW.cond_false ?_ ?_); · rfl) | simp (maxDischargeDepth := 12) only [push_cast, appendX, reduceIte, reduceCtorEq, Nat.reduceSub, Nat.reduceAdd, Nat.reduceMul, Nat.reduceLT, Nat.reduceLeDiff, Nat.reduceEqDiff, Nat.reduceBEq, Int.reduceToNat, Int.reduceLT, Int.reduceLE, Int.reduceEq, Int.reduceNeg, Try.results13, List.length_nil, Int.lt_irrefl, cast0, dcml, dc1, gtr, Heap.lt gtr, xt3.2, xt3.ltT, xt3.leT, dcr, ↓dncl, ↓dnlf])
      rw [hdec]
      exact ⟨d, rfl, hh, hnew, xt3⟩
    · have hrl : 0 < r.length := List.length_pos_iff.2 hr0
      have dcr : decide (0 < (r.length : Int)) = true := by simp; omega
      have dnl := lenH (ty := 29) hh rfl
      by_cases ha : acc.length = 32
      · have dca : ((acc.length : Int) == 32) = true := by simp; omega
        repeat (first | (with_reducible refine AW.seq ?_) | (with_reducible refine AW.block ?_) | (with_reducible refine AW.skip ?_) | (with_reducible refine AW.ret ?_) | (with_reducible refine AW.exit ?_) | (with_reducible refine AW.reg hT ?_) | ((with_reducible refine AW.cond_true ?_ ?_); · rfl) | ((with_reducible refine AW.cond_false ?_ ?_); · rfl) | simp (maxDischargeDepth := 12) only [push_cast, appendX, reduceIte, reduceCtorEq, Nat.reduceSub, Nat.reduceAdd, Nat.reduceMul, Nat.reduceLT, Nat.reduceLeDiff, Nat.reduceEqDiff, Nat.reduceBEq, Int.reduceToNat, Int.reduceLT, Int.reduceLE, Int.reduceEq, Int.reduceNeg, Try.results13, dcml, dc1, gtr, Heap.lt gtr, xt3.2, xt3.ltT, xt3.leT, dcr, ↓dnl, dca])
        have : decO b = ([], 3) := by
          rw [hdec]
          by_cases h : r.length < 4
          · rw [decGo_short hr0 h, if_pos ha]
          · match r with
            | a :: b :: c :: t :: r => rw [decGo, if_pos ha]
            | [] | [_] | [_, _] | [_, _, _] => simp at h
        exact ⟨_, by rw [this], by rw [this]; exact Hold.nil _ _, by simp [tOf], xt3⟩
      · have dca : ((acc.length : Int) == 32) = false := by simp; omega
        repeat (first | (with_reducible refine AW.seq ?_) | (with_reducible refine AW.block ?_) | (with_reducible refine AW.skip ?_) | (with_reducible refine AW.ret ?_) | (with_reducible refine AW.exit ?_) | (with_reducible refine AW.reg hT ?_) | ((with_reducible refine AW.cond_true ?_ ?_); · rfl) | ((with_reducible refine AW.cond_false ?_ ?_); · rfl) | simp (maxDischargeDepth := 12) only [push_cast, appendX, reduceIte, reduceCtorEq, Nat.reduceSub, Nat.reduceAdd, Nat.reduceMul, Nat.reduceLT, Nat.reduceLeDiff, Nat.reduceEqDiff, Nat.reduceBEq, Int.reduceToNat, Int.reduceLT, Int.reduceLE, Int.reduceEq, Int.reduceNeg, Try.results13, dcml, dc1, gtr, Heap.lt gtr, xt3.2, xt3.ltT, xt3.leT, dcr, ↓dnl, dca])
        refine AOpsL.call (first := []) (cap := []) hT rfl rfl rfl fn22 rfl (ACalls.mono (left_ok _ gtr) ?_)
        rintro x σ' ⟨rfl, rfl⟩
        by_cases h : r.length < 4
        · have dcs : decide ((r.length : Int) < 4) = true := by simp; omega
          repeat (first | (with_reducible refine AW.seq ?_) | (with_reducible refine AW.block ?_) | (with_reducible refine AW.skip ?_) | (with_reducible refine AW.ret ?_) | (with_reducible refine AW.exit ?_) | (with_reducible refine AW.reg hT ?_) | ((with_reducible refine AW.cond_true ?_ ?_); · rfl) | ((with_reducible refine AW.cond_false ?_ ?_); · rfl) | simp (maxDischargeDepth := 12) only [push_cast, appendX, reduceIte, reduceCtorEq, Nat.reduceSub, Nat.reduceAdd, Nat.reduceMul, Nat.reduceLT, Nat.reduceLeDiff, Nat.reduceEqDiff, Nat.reduceBEq, Int.reduceToNat, Int.reduceLT, Int.reduceLE, Int.reduceEq, Int.reduceNeg, Try.results13, dcml, dc1, gtr, Heap.lt gtr, xt3.2, xt3.ltT, xt3.leT, dcr, ↓dnl, dca, dcs])
          have : decO b = ([], 4) := by rw [hdec, decGo_short hr0 h, if_neg ha]
          exact ⟨_, by rw [this], by rw [this]; exact Hold.nil _ _, by simp [tOf], xt3⟩
        · have dcs : decide ((r.length : Int) < 4) = false := by simp; omega
          repeat (first | (with_reducible refine AW.seq ?_) | (with_reducible refine AW.block ?_) | (with_reducible refine AW.skip ?_) | (with_reducible refine AW.ret ?_) | (with_reducible refine AW.exit ?_) | (with_reducible refine AW.reg hT ?_) | ((with_reducible refine AW.cond_true ?_ ?_); · rfl) | ((with_reducible refine AW.cond_false ?_ ?_); · rfl) | simp (maxDischargeDepth := 12) only [push_cast, appendX, reduceIte, reduceCtorEq, Nat.reduceSub, Nat.reduceAdd, Nat.reduceMul, Nat.reduceLT, Nat.reduceLeDiff, Nat.reduceEqDiff, Nat.reduceBEq, Int.reduceToNat, Int.reduceLT, Int.reduceLE, Int.reduceEq, Int.reduceNeg, Try.results13, dcml, dc1, gtr, Heap.lt gtr, xt3.2, xt3.ltT, xt3.leT, dcr, ↓dnl, dca, dcs])
          obtain ⟨a0, a1, a2, a3, r, rfl⟩ : ∃ a0 a1 a2 a3 r', r = a0 :: a1 :: a2 :: a3 :: r' := by
            match r with
            | a :: b :: c :: t :: r => exact ⟨_, _, _, _, _, rfl⟩
            | [] | [_] | [_, _] | [_, _, _] => simp at h
          clear h hr0 hrl dcr dcs
          have ho0 := hor a0 (by simp)
          have ho1 := hor a1 (by simp)
          have ho2 := hor a2 (by simp)
          have ho3 := hor a3 (by simp)
          have hor' : Octs r := fun x hx => hor x (by simp [hx])
          obtain ⟨N, hN⟩ : ∃ N, N = num [a0, a1] := ⟨_, rfl⟩
          have hN0 : 0 ≤ N ∧ N < 65536 := by rw [hN, num2]; omega
          refine AOpsL.call (first := []) (cap := []) hT rfl rfl rfl fn23 rfl (ACalls.mono (uint_ok _ 2 gtr hor) ?_)
          rintro x σ4 ⟨rfl, gt4, xt4⟩
          rw [show decide ((1 : Int) ≤ 2 ∧ (2 : Int) ≤ 8) = true from rfl, show (2 : Int) = ((2 : Nat) : Int) from rfl, tk_yes (by simp)] at gt4 ⊢
          simp only [List.drop_succ_cons, List.drop_zero, List.take_succ_cons, List.take_zero] at gt4 ⊢
          rw [← hN]
          have dcw : IntKind.i64.wrap N = N := wrap_i64 (by omega) (by omega)
          have hdec2 := hdec
          rw [decGo, if_neg ha, ← hN] at hdec2
          by_cases hbad : N < 4 ∨ N % 4 ≠ 0
          · rw [if_pos hbad] at hdec2
            by_cases hN4 : N < 4
            · have dcn : decide (N < 4) = true := by simpa using hN4
              repeat (first | (with_reducible refine AW.seq ?_) | (with_reducible refine AW.block ?_) | (with_reducible refine AW.skip ?_) | (with_reducible refine AW.ret ?_) | (with_reducible refine AW.exit ?_) | (with_reducible refine AW.reg hT ?_) | ((with_reducible refine AW.cond_true ?_ ?_); · rfl) | ((with_reducible refine AW.cond_false ?_ ?_); · rfl) | simp (maxDischargeDepth := 12) only [push_cast, appendX, reduceIte, reduceCtorEq, Nat.reduceSub, Nat.reduceAdd, Nat.reduceMul, Nat.reduceLT, Nat.reduceLeDiff, Nat.reduceEqDiff, Nat.reduceBEq, Int.reduceToNat, Int.reduceLT, Int.reduceLE, Int.reduceEq, Int.reduceNeg, Try.results13, dcml, dc1, gtr, Heap.lt gtr, xt3.2, xt3.ltT, xt3.leT, ↓dnl, dca, gt4, Heap.lt gt4, xt4.2, xt4.ltT, xt4.leT, dcw, dcn])
              refine ⟨_, by rw [hdec2], by rw [hdec2]; exact Hold.nil _ _, by simp [tOf], xt3.then xt4 (by simp; omega)⟩
            · have dcn : decide (N < 4) = false := by simpa using hN4
              have dcm : (N.tmod 4 == 0) = false := by rw [Int.tmod_eq_emod_of_nonneg hN0.1]; simp; omega
              repeat (first | (with_reducible refine AW.seq ?_) | (with_reducible refine AW.block ?_) | (with_reducible refine AW.skip ?_) | (with_reducible refine AW.ret ?_) | (with_reducible refine AW.exit ?_) | (with_reducible refine AW.reg hT ?_) | ((with_reducible refine AW.cond_true ?_ ?_); · rfl) | ((with_reducible refine AW.cond_false ?_ ?_); · rfl) | simp (maxDischargeDepth := 12) only [push_cast, appendX, reduceIte, reduceCtorEq, Nat.reduceSub, Nat.reduceAdd, Nat.reduceMul, Nat.reduceLT, Nat.reduceLeDiff, Nat.reduceEqDiff, Nat.reduceBEq, Int.reduceToNat, Int.reduceLT, Int.reduceLE, Int.reduceEq, Int.reduceNeg, Try.results13, dcml, dc1, gtr, Heap.lt gtr, xt3.2, xt3.ltT, xt3.leT, ↓dnl, dca, gt4, Heap.lt gt4, xt4.2, xt4.ltT, xt4.leT, dcw, dcn, dcm])
              refine ⟨_, by rw [hdec2], by rw [hdec2]; exact Hold.nil _ _, by simp [tOf], xt3.then xt4 (by simp; omega)⟩
          · rw [if_neg hbad] at hdec2
            have dcn : decide (N < 4) = false := by simp; omega
            have dcm : (N.tmod 4 == 0) = true := by rw [Int.tmod_eq_emod_of_nonneg hN0.1]; simp; omega
            have dcw4 : IntKind.i64.wrap (N - 4) = N - 4 := wrap_i64 (by omega) (by omega)
            have dcw2 : IntKind.i64.wrap a2 = a2 := wrap_i64 (by omega) (by omega)
            have dcw3 : IntKind.i64.wrap a3 = a3 := wrap_i64 (by omega) (by omega)
            have hpl := Heap.lt gtr
            have hx34 := xt4.1
            have hd4 : ∀ q ∈ tOf d, q < σ'.n := hh.lt
            repeat (first | (with_reducible refine AW.seq ?_) | (with_reducible refine AW.block ?_) | (with_reducible refine AW.skip ?_) | (with_reducible refine AW.ret ?_) | (with_reducible refine AW.exit ?_) | (with_reducible refine AW.reg hT ?_) | ((with_reducible refine AW.cond_true ?_ ?_); · rfl) | ((with_reducible refine AW.cond_false ?_ ?_); · rfl) | simp (maxDischargeDepth := 12) only [push_cast, appendX, reduceIte, reduceCtorEq, Nat.reduceSub, Nat.reduceAdd, Nat.reduceMul, Nat.reduceLT, Nat.reduceLeDiff, Nat.reduceEqDiff, Nat.reduceBEq, Int.reduceToNat, Int.reduceLT, Int.reduceLE, Int.reduceEq, Int.reduceNeg, Try.results13, dcml, dc1, gtr, Heap.lt gtr, xt3.2, xt3.ltT, xt3.leT, ↓dnl, dca, gt4, Heap.lt gt4, xt4.2, xt4.ltT, xt4.leT, dcw, dcn, dcm, dcw4, dcw2, dcw3])
            refine AOpsL.call (first := []) (cap := []) hT rfl rfl rfl fn23 rfl (ACalls.mono (uint_ok (l := a2 :: a3 :: r) (e := 0) _ 1 (by simp (maxDischargeDepth := 12) only [push_cast, appendX, Nat.reduceAdd, Nat.reduceEqDiff, Nat.reduceLT, Nat.reduceLeDiff, reduceIte, reduceCtorEq, dcml, dc1, gtr, Heap.lt gtr, xt3.2, xt3.ltT, xt3.leT, ↓dnl, dca, gt4, Heap.lt gt4, xt4.2, xt4.ltT, xt4.leT, dcw, dcn, dcm, dcw4, dcw2, dcw3]) (fun x hx => hor x (by simp at hx ⊢; rcases hx with h | h | h <;> simp [h]))) ?_)
            rintro x σ5 ⟨rfl, gt5, xt5⟩
            rw [show decide ((1 : Int) ≤ 1 ∧ (1 : Int) ≤ 8) = true from rfl, show tk (a2 :: a3 :: r) 0 1 true = (a3 :: r, 0, [a2]) from tk_yes (n := 1) (by simp)] at gt5 ⊢
            simp only [num1] at gt5 ⊢
            have hx45 := xt5.1
            rw [Heap.n_push] at hx45
            repeat (first | (with_reducible refine AW.seq ?_) | (with_reducible refine AW.block ?_) | (with_reducible refine AW.skip ?_) | (with_reducible refine AW.ret ?_) | (with_reducible refine AW.exit ?_) | (with_reducible refine AW.reg hT ?_) | ((with_reducible refine AW.cond_true ?_ ?_); · rfl) | ((with_reducible refine AW.cond_false ?_ ?_); · rfl) | simp (maxDischargeDepth := 12) only [push_cast, appendX, reduceIte, reduceCtorEq, Nat.reduceSub, Nat.reduceAdd, Nat.reduceMul, Nat.reduceLT, Nat.reduceLeDiff, Nat.reduceEqDiff, Nat.reduceBEq, Int.reduceToNat, Int.reduceLT, Int.reduceLE, Int.reduceEq, Int.reduceNeg, Try.results13, dcml, dc1, gtr, Heap.lt gtr, xt3.2, xt3.ltT, xt3.leT, ↓dnl, dca, gt4, Heap.lt gt4, xt4.2, xt4.ltT, xt4.leT, dcw, dcn, dcm, dcw4, dcw2, dcw3, gt5, Heap.lt gt5, xt5.2, xt5.ltT, xt5.leT])
            refine AOpsL.call (first := []) (cap := []) hT rfl rfl rfl fn23 rfl (ACalls.mono (uint_ok (l := a3 :: r) (e := 0) _ 1 (by simp (maxDischargeDepth := 12) only [push_cast, appendX, Nat.reduceAdd, Nat.reduceEqDiff, Nat.reduceLT, Nat.reduceLeDiff, reduceIte, reduceCtorEq, dcml, dc1, gtr, Heap.lt gtr, xt3.2, xt3.ltT, xt3.leT, ↓dnl, dca, gt4, Heap.lt gt4, xt4.2, xt4.ltT, xt4.leT, dcw, dcn, dcm, dcw4, dcw2, dcw3, gt5, Heap.lt gt5, xt5.2, xt5.ltT, xt5.leT]) (fun x hx => hor x (by simp at hx ⊢; rcases hx with h | h <;> simp [h]))) ?_)
            rintro x σ6 ⟨rfl, gt6, xt6⟩
            rw [show decide ((1 : Int) ≤ 1 ∧ (1 : Int) ≤ 8) = true from rfl, show tk (a3 :: r) 0 1 true = (r, 0, [a3]) from tk_yes (n := 1) (by simp)] at gt6 ⊢
            simp only [num1] at gt6 ⊢
            have hx56 := xt6.1
            rw [Heap.n_set] at hx56
            repeat (first | (with_reducible refine AW.seq ?_) | (with_reducible refine AW.block ?_) | (with_reducible refine AW.skip ?_) | (with_reducible refine AW.ret ?_) | (with_reducible refine AW.exit ?_) | (with_reducible refine AW.reg hT ?_) | ((with_reducible refine AW.cond_true ?_ ?_); · rfl) | ((with_reducible refine AW.cond_false ?_ ?_); · rfl) | simp (maxDischargeDepth := 12) only [push_cast, appendX, reduceIte, reduceCtorEq, Nat.reduceSub, Nat.reduceAdd, Nat.reduceMul, Nat.reduceLT, Nat.reduceLeDiff, Nat.reduceEqDiff, Nat.reduceBEq, Int.reduceToNat, Int.reduceLT, Int.reduceLE, Int.reduceEq, Int.reduceNeg, Try.results13, dcml, dc1, gtr, Heap.lt gtr, xt3.2, xt3.ltT, xt3.leT, ↓dnl, dca, gt4, Heap.lt gt4, xt4.2, xt4.ltT, xt4.leT, dcw, dcn, dcm, dcw4, dcw2, dcw3, gt5, Heap.lt gt5, xt5.2, xt5.ltT, xt5.leT, gt6, Heap.lt gt6, xt6.2, xt6.ltT, xt6.leT])
            refine AOpsL.call (first := []) (cap := []) hT rfl rfl rfl fn24 rfl (ACalls.mono (bytes_ok (l := r) (e := 0) _ (N - 4) (by simp (maxDischargeDepth := 12) only [push_cast, appendX, Nat.reduceAdd, Nat.reduceEqDiff, Nat.reduceLT, Nat.reduceLeDiff, reduceIte, reduceCtorEq, dcml, dc1, gtr, Heap.lt gtr, xt3.2, xt3.ltT, xt3.leT, ↓dnl, dca, gt4, Heap.lt gt4, xt4.2, xt4.ltT, xt4.leT, dcw, dcn, dcm, dcw4, dcw2, dcw3, gt5, Heap.lt gt5, xt5.2, xt5.ltT, xt5.leT, gt6, Heap.lt gt6, xt6.2, xt6.ltT, xt6.leT])) ?_)
            rintro x σ7 ⟨rfl, gt7, xt7⟩
            rw [show decide ((0 : Int) ≤ N - 4) = true from by simp; omega] at gt7 ⊢
            have hx67 := xt7.1
            rw [Heap.n_set] at hx67
            obtain ⟨k, hk⟩ : ∃ k : Nat, N - 4 = (k : Int) := ⟨(N - 4).toNat, by omega⟩
            rw [hk] at gt7 hdec2 ⊢
            have xtA : Ext [] σ σ7 := by
              refine (((xt3.then xt4 (by simp; omega)).push _).then xt5 (by simp; omega)).set ?_ _ |>.then xt6 (by simp; omega) |>.set ?_ _ |>.then xt7 (by simp; omega)
              · left; have := xt3.1; omega
              · left; have := xt3.1; omega
            by_cases hkr : r.length < k
            · have hkr' : ((r.length : Int) < (k : Int)) := by omega
              rw [if_pos hkr'] at hdec2
              rw [show tk r 0 (k : Int) true = (r, 4, []) from by simp [tk, hkr]] at gt7 ⊢
              repeat (first | (with_reducible refine AW.seq ?_) | (with_reducible refine AW.block ?_) | (with_reducible refine AW.skip ?_) | (with_reducible refine AW.ret ?_) | (with_reducible refine AW.exit ?_) | (with_reducible refine AW.reg hT ?_) | ((with_reducible refine AW.cond_true ?_ ?_); · rfl) | ((with_reducible refine AW.cond_false ?_ ?_); · rfl) | simp (maxDischargeDepth := 12) only [push_cast, appendX, reduceIte, reduceCtorEq, Nat.reduceSub, Nat.reduceAdd, Nat.reduceMul, Nat.reduceLT, Nat.reduceLeDiff, Nat.reduceEqDiff, Nat.reduceBEq, Int.reduceToNat, Int.reduceLT, Int.reduceLE, Int.reduceEq, Int.reduceNeg, Try.results13, dcml, dc1, gtr, Heap.lt gtr, xt3.2, xt3.ltT, xt3.leT, ↓dnl, dca, gt4, Heap.lt gt4, xt4.2, xt4.ltT, xt4.leT, dcw, dcn, dcm, dcw4, dcw2, dcw3, gt5, Heap.lt gt5, xt5.2, xt5.ltT, xt5.leT, gt6, Heap.lt gt6, xt6.2, xt6.ltT, xt6.leT, gt7, Heap.lt gt7, xt7.2, xt7.ltT, xt7.leT, xtA.2, xtA.ltT, xtA.leT])
              refine AOpsL.call (first := []) (cap := []) hT rfl rfl rfl fn25 rfl (ACalls.mono (err_ok (l := r) (e := 4) _ (by simp (maxDischargeDepth := 12) only [push_cast, appendX, Nat.reduceAdd, Nat.reduceEqDiff, Nat.reduceLT, Nat.reduceLeDiff, reduceIte, reduceCtorEq, dcml, dc1, gtr, Heap.lt gtr, xt3.2, xt3.ltT, xt3.leT, ↓dnl, dca, gt4, Heap.lt gt4, xt4.2, xt4.ltT, xt4.leT, dcw, dcn, dcm, dcw4, dcw2, dcw3, gt5, Heap.lt gt5, xt5.2, xt5.ltT, xt5.leT, gt6, Heap.lt gt6, xt6.2, xt6.ltT, xt6.leT, gt7, Heap.lt gt7, xt7.2, xt7.ltT, xt7.leT, xtA.2, xtA.ltT, xtA.leT])) ?_)
              rintro x σ8 ⟨rfl, rfl⟩
              repeat (first | (with_reducible refine AW.seq ?_) | (with_reducible refine AW.block ?_) | (with_reducible refine AW.skip ?_) | (with_reducible refine AW.ret ?_) | (with_reducible refine AW.exit ?_) | (with_reducible refine AW.reg hT ?_) | ((with_reducible refine AW.cond_true ?_ ?_); · rfl) | ((with_reducible refine AW.cond_false ?_ ?_); · rfl) | simp (maxDischargeDepth := 12) only [push_cast, appendX, reduceIte, reduceCtorEq, Nat.reduceSub, Nat.reduceAdd, Nat.reduceMul, Nat.reduceLT, Nat.reduceLeDiff, Nat.reduceEqDiff, Nat.reduceBEq, Int.reduceToNat, Int.reduceLT, Int.reduceLE, Int.reduceEq, Int.reduceNeg, Try.results13, dcml, dc1, gtr, Heap.lt gtr, xt3.2, xt3.ltT, xt3.leT, ↓dnl, dca, gt4, Heap.lt gt4, xt4.2, xt4.ltT, xt4.leT, dcw, dcn, dcm, dcw4, dcw2, dcw3, gt5, Heap.lt gt5, xt5.2, xt5.ltT, xt5.leT, gt6, Heap.lt gt6, xt6.2, xt6.ltT, xt6.leT, gt7, Heap.lt gt7, xt7.2, xt7.ltT, xt7.leT, xtA.2, xtA.ltT, xtA.leT])
              refine ⟨_, by rw [hdec2], by rw [hdec2]; exact Hold.nil _ _, by simp [tOf], xtA.set (.inl (by have := xt3.1; omega)) _⟩
            · have hkr' : ¬ ((r.length : Int) < (k : Int)) := by omega
              rw [if_neg hkr', Int.toNat_natCast] at hdec2
              rw [tk_yes (l := r) (n := k) (by omega)] at gt7 ⊢
              repeat (first | (with_reducible refine AW.seq ?_) | (with_reducible refine AW.block ?_) | (with_reducible refine AW.skip ?_) | (with_reducible refine AW.ret ?_) | (with_reducible refine AW.exit ?_) | (with_reducible refine AW.reg hT ?_) | ((with_reducible refine AW.cond_true ?_ ?_); · rfl) | ((with_reducible refine AW.cond_false ?_ ?_); · rfl) | simp (maxDischargeDepth := 12) only [push_cast, appendX, reduceIte, reduceCtorEq, Nat.reduceSub, Nat.reduceAdd, Nat.reduceMul, Nat.reduceLT, Nat.reduceLeDiff, Nat.reduceEqDiff, Nat.reduceBEq, Int.reduceToNat, Int.reduceLT, Int.reduceLE, Int.reduceEq, Int.reduceNeg, Try.results13, dcml, dc1, gtr, Heap.lt gtr, xt3.2, xt3.ltT, xt3.leT, ↓dnl, dca, gt4, Heap.lt gt4, xt4.2, xt4.ltT, xt4.leT, dcw, dcn, dcm, dcw4, dcw2, dcw3, gt5, Heap.lt gt5, xt5.2, xt5.ltT, xt5.leT, gt6, Heap.lt gt6, xt6.2, xt6.ltT, xt6.leT, gt7, Heap.lt gt7, xt7.2, xt7.ltT, xt7.leT, xtA.2, xtA.ltT, xtA.leT])
              refine AOpsL.call (first := []) (cap := []) hT rfl rfl rfl fn25 rfl (ACalls.mono (err_ok (l := r.drop k) (e := 0) _ (by simp (maxDischargeDepth := 12) only [push_cast, appendX, Nat.reduceAdd, Nat.reduceEqDiff, Nat.reduceLT, Nat.reduceLeDiff, reduceIte, reduceCtorEq, dcml, dc1, gtr, Heap.lt gtr, xt3.2, xt3.ltT, xt3.leT, ↓dnl, dca, gt4, Heap.lt gt4, xt4.2, xt4.ltT, xt4.leT, dcw, dcn, dcm, dcw4, dcw2, dcw3, gt5, Heap.lt gt5, xt5.2, xt5.ltT, xt5.leT, gt6, Heap.lt gt6, xt6.2, xt6.ltT, xt6.leT, gt7, Heap.lt gt7, xt7.2, xt7.ltT, xt7.leT, xtA.2, xtA.ltT, xtA.leT])) ?_)
              rintro x σ8 ⟨rfl, rfl⟩
              have hxf : Ext [p] σ' σ7 := by
                refine (((xt4.push _).then xt5 (by simp)).set (.inl hx34) _ |>.then xt6 (by simp) |>.set (.inl hx34) _ |>.then xt7 (by simp))
              have hh7 := hh.frame ((hxf.set (t := σ4.n) (.inl hx34) ⟨[[.sc (.int .i64 a2), .sc (.int .i64 a3), .imm (bytesD (r.take k))]], 44, true⟩)) (fun q hq hm => hpd (by simp at hm; rwa [hm] at hq))
              obtain ⟨d8, σ8, dnapp, hh8, hnew8, xt8, he8⟩ := hh7.app1x (ty := 29) (x := eO ⟨a2, a3, r.take k⟩) hnew (xtA.set (t := σ4.n) (.inl (by have := xt3.1; omega)) ⟨[[.sc (.int .i64 a2), .sc (.int .i64 a3), .imm (bytesD (r.take k))]], 44, true⟩) rfl rfl (by decide) rfl (by simp; omega)
              simp only [eO_eq, Heap.n_set] at dnapp
              repeat (first | (with_reducible refine AW.seq ?_) | (with_reducible refine AW.block ?_) | (with_reducible refine AW.skip ?_) | (with_reducible refine AW.ret ?_) | (with_reducible refine AW.exit ?_) | (with_reducible refine AW.reg hT ?_) | ((with_reducible refine AW.cond_true ?_ ?_); · rfl) | ((with_reducible refine AW.cond_false ?_ ?_); · rfl) | simp (maxDischargeDepth := 12) only [push_cast, appendX, reduceIte, reduceCtorEq, Nat.reduceSub, Nat.reduceAdd, Nat.reduceMul, Nat.reduceLT, Nat.reduceLeDiff, Nat.reduceEqDiff, Nat.reduceBEq, Int.reduceToNat, Int.reduceLT, Int.reduceLE, Int.reduceEq, Int.reduceNeg, Try.results13, dcml, dc1, gtr, Heap.lt gtr, xt3.2, xt3.ltT, xt3.leT, ↓dnl, dca, gt4, Heap.lt gt4, xt4.2, xt4.ltT, xt4.leT, dcw, dcn, dcm, dcw4, dcw2, dcw3, gt5, Heap.lt gt5, xt5.2, xt5.ltT, xt5.leT, gt6, Heap.lt gt6, xt6.2, xt6.ltT, xt6.leT, gt7, Heap.lt gt7, xt7.2, xt7.ltT, xt7.leT, xtA.2, xtA.ltT, xtA.leT, ↓dnapp, xt8.2, xt8.ltT, xt8.leT])
              simp only [List.length_cons] at hrf
              obtain ⟨f', rfl⟩ : ∃ f', f = f' + 1 := ⟨f - 1, by omega⟩
              refine ⟨(r.drop k).length, by simp; omega, f', r.drop k, acc ++ [⟨a2, a3, r.take k⟩], d8, rfl, hdec2, by simp; omega, hor'.drop k, by simp; omega, by simp at hr4 ⊢; omega, ?_, by simpa using hh8, hnew8, xt8, by (simp only [push_cast, TellsL, tells_any, tells_refl])⟩
              refine he8.get ?_ hpd
              simp (maxDischargeDepth := 12) only [push_cast, appendX, Nat.reduceAdd, Nat.reduceEqDiff, Nat.reduceLT, Nat.reduceLeDiff, reduceIte, reduceCtorEq, dcml, dc1, gtr, Heap.lt gtr, xt3.2, xt3.ltT, xt3.leT, ↓dnl, dca, gt4, Heap.lt gt4, xt4.2, xt4.ltT, xt4.leT, dcw, dcn, dcm, dcw4, dcw2, dcw3, gt5, Heap.lt gt5, xt5.2, xt5.ltT, xt5.leT, gt6, Heap.lt gt6, xt6.2, xt6.ltT, xt6.leT, gt7, Heap.lt gt7, xt7.2, xt7.ltT, xt7.leT, xtA.2, xtA.ltT, xtA.leT, ↓dnapp, xt8.2, xt8.ltT, xt8.leT]
def rdeI (b : List Int) (σ0 : Heap) (m : Nat) (ts : List DV) (σ : Heap) : Prop := ∃ f k acc d, m = b.length - k ∧ decO b = decGo (f + 1) (b.drop k) acc ∧ k ≤ b.length ∧ b.length - k ≤ f ∧ acc.length ≤ 32 ∧ Hold σ d 45 (acc.map eO) ∧ (∀ q ∈ tOf d, σ0.n ≤ q) ∧ Ext [] σ0 σ ∧ TellsL ts (.imm (bytesD b) :: .any :: .sc (.slice none 0 0) :: .sc (.int .i64 0) :: d :: .sc (.int .i64 k) :: .any :: .any :: .any :: .any :: .any :: .any :: .any :: .any :: .any :: .any :: .any :: .any :: .any :: .any :: .any :: .any :: .any :: .any :: .any :: .any :: .any :: .any :: .any :: .any :: .any :: .any :: .any :: .any :: .any :: .any :: .any :: .any :: .any :: .any :: .any :: .any :: .any :: .any :: .any :: .any :: .any :: .any :: .any :: .any :: .any :: .any :: .any :: .any :: .any :: .any :: .any :: .any :: .any :: .any :: .any :: .any :: .any :: .any :: .any :: .any :: .any :: .any :: .any :: [])
theorem drop_cut {b r : List Int} {k : Nat} (h : b.drop k = r) (i j : Nat) : ((bytesD b).take (k + i + j)).drop (k + i) = bytesD ((r.drop i).take j) := by
  subst h
  rw [List.drop_take, bytesD_drop, bytesD_take, List.drop_drop]
  congr 2; omega
theorem drop_at {b r : List Int} {k : Nat} (h : b.drop k = r) (i : Nat) (x : Int) (hx : r[i]? = some x) : (bytesD b)[k + i]? = some [.sc (.int .u8 x)] := by
  subst h
  rw [List.getElem?_drop] at hx
  unfold bytesD; rw [List.getElem?_map, hx]; rfl
theorem rdecode_ok (σ : Heap) (b : List Int) (ho : Octs b) (hb : b.length ≤ 1000000) : ACalls Try.prog 14 [.imm (bytesD b)] σ (fun x σ' => x = .tup [.imm ((decO b).1.map eO), .sc (.int .i64 (decO b).2)] ∧ Ext [] σ σ') := by
  have dcml : (bytesD b).length = b.length := bytesD_length _
  have dc9 := bytes_all b
  refine toImmP (e := 45) ?_
  refine ACalls.code hT Try.func14 rfl ?_
  simp only [Try.ntmps14, List.length_cons, List.length_nil, Nat.reduceSub, Nat.reduceAdd, List.replicate, List.cons_append, List.nil_append]
  by_cases h4 : 4096 < b.length
  · have dc1 : decide (4096 < (b.length : Int)) = true := by simp; omega
    repeat (first | (with_reducible refine AW.seq ?_) | (with_reducible refine AW.block ?_) | (with_reducible refine AW.skip ?_) | (with_reducible refine AW.ret ?_) | (with_reducible refine AW.exit ?_) | (with_reducible refine AW.reg hT ?_) | (with_reducible refine AW.drawn (id := 15) hT [0, 1, 2, 3, 4, 5, 6, 7, 8, 9, 10, 11, 12, 13, 14, 15, 16, 17, 18, 19, 20, 21, 22, 23] [[], [], [], [2], [1, 2, 3], [1, 2, 3, 4], [1, 2, 3, 4, 5], [], [], [8], [7, 8, 9], [7, 8, 9, 10], [7, 8, 9, 10, 11], [], [], [14], [], [], [16, 17], [13, 14, 15, 16, 17, 18], [1, 2, 3, 4, 5, 6, 7, 8, 9, 10, 11, 12, 13, 14, 15, 16, 17, 18, 19], [1, 2, 3, 4, 5, 6, 7, 8, 9, 10, 11, 12, 13, 14, 15, 16, 17, 18, 19, 20], [0, 1, 2, 3, 4, 5, 6, 7, 8, 9, 10, 11, 12, 13, 14, 15, 16, 17, 18, 19, 20, 21], [0, 1, 2, 3, 4, 5, 6, 7, 8, 9, 10, 11, 12, 13, 14, 15, 16, 17, 18, 19, 20, 21, 22]] mix (by kernel_rfl) ?_) | ((with_reducible apply DLeft.step hT); (case hoi => ((simp only [List.getElem?_toArray, List.getElem?_cons_zero, List.getElem?_cons_succ]); with_reducible rfl)); (case hg => rfl); (case hk => rfl); (case hr => ((try simp (maxDischargeDepth := 12) only [push_cast, appendX, reduceIte, reduceCtorEq, Nat.reduceSub, Nat.reduceAdd, Nat.reduceMul, Nat.reduceLT, Nat.reduceLeDiff, Nat.reduceEqDiff, Nat.reduceBEq, Int.reduceToNat, Int.reduceLT, Int.reduceLE, Int.reduceEq, Int.reduceNeg, Try.results14, dcml, dc9, dc1]); with_reducible rfl))) | ((with_reducible refine AW.cond_true ?_ ?_); · rfl) | ((with_reducible refine AW.cond_false ?_ ?_); · rfl) | simp (maxDischargeDepth := 12) only [push_cast, appendX, reduceIte, reduceCtorEq, Nat.reduceSub, Nat.reduceAdd, Nat.reduceMul, Nat.reduceLT, Nat.reduceLeDiff, Nat.reduceEqDiff, Nat.reduceBEq, Int.reduceToNat, Int.reduceLT, Int.reduceLE, Int.reduceEq, Int.reduceNeg, Try.results14, dcml, dc9, dc1])
    have : decO b = ([], 3) := by rw [decO, if_pos h4]
    exact ⟨_, by rw [this], by rw [this]; exact Hold.nil _ _, by simp [tOf], Ext.refl _ _⟩
  · have dc1 : decide (4096 < (b.length : Int)) = false := by simp; omega
    repeat (first | (with_reducible refine AW.seq ?_) | (with_reducible refine AW.block ?_) | (with_reducible refine AW.skip ?_) | (with_reducible refine AW.ret ?_) | (with_reducible refine AW.exit ?_) | (with_reducible refine AW.reg hT ?_) | (with_reducible refine AW.drawn (id := 15) hT [0, 1, 2, 3, 4, 5, 6, 7, 8, 9, 10, 11, 12, 13, 14, 15, 16, 17, 18, 19, 20, 21, 22, 23] [[], [], [], [2], [1, 2, 3], [1, 2, 3, 4], [1, 2, 3, 4, 5], [], [], [8], [7, 8, 9], [7, 8, 9, 10], [7, 8, 9, 10, 11], [], [], [14], [], [], [16, 17], [13, 14, 15, 16, 17, 18], [1, 2, 3, 4, 5, 6, 7, 8, 9, 10, 11, 12, 13, 14, 15, 16, 17, 18, 19], [1, 2, 3, 4, 5, 6, 7, 8, 9, 10, 11, 12, 13, 14, 15, 16, 17, 18, 19, 20], [0, 1, 2, 3, 4, 5, 6, 7, 8, 9, 10, 11, 12, 13, 14, 15, 16, 17, 18, 19, 20, 21], [0, 1, 2, 3, 4, 5, 6, 7, 8, 9, 10, 11, 12, 13, 14, 15, 16, 17, 18, 19, 20, 21, 22]] mix (by kernel_rfl) ?_) | ((with_reducible apply DLeft.step hT); (case hoi => ((simp only [List.getElem?_toArray, List.getElem?_cons_zero, List.getElem?_cons_succ]); with_reducible rfl)); (case hg => rfl); (case hk => rfl); (case hr => ((try simp (maxDischargeDepth := 12) only [push_cast, appendX, reduceIte, reduceCtorEq, Nat.reduceSub, Nat.reduceAdd, Nat.reduceMul, Nat.reduceLT, Nat.reduceLeDiff, Nat.reduceEqDiff, Nat.reduceBEq, Int.reduceToNat, Int.reduceLT, Int.reduceLE, Int.reduceEq, Int.reduceNeg, Try.results14, dcml, dc9, dc1]); with_reducible rfl))) | ((with_reducible refine AW.cond_true ?_ ?_); · rfl) | ((with_reducible refine AW.cond_false ?_ ?_); · rfl) | simp (maxDischargeDepth := 12) only [push_cast, appendX, reduceIte, reduceCtorEq, Nat.reduceSub, Nat.reduceAdd, Nat.reduceMul, Nat.reduceLT, Nat.reduceLeDiff, Nat.reduceEqDiff, Nat.reduceBEq, Int.reduceToNat, Int.reduceLT, Int.reduceLE, Int.reduceEq, Int.reduceNeg, Try.results14, dcml, dc9, dc1])
    refine AW.loop (rdeI b σ) (m := b.length) ⟨b.length, 0, [], .sc (.slice none 0 0), rfl, by rw [decO, if_neg h4]; rfl, Nat.zero_le _, Nat.le_refl _, by simp, Hold.nil _ _, by simp [tOf], Ext.refl _ _, by (simp only [push_cast, TellsL, tells_any, tells_refl])⟩ ?_
    rintro m ts σ3 ⟨f, k, acc, d, rfl, hdec, hkb, hkf, hacc, hh, hnew, xt3, hts⟩
    refine AW.told hts ?_
    clear hts
    by_cases hk : k < b.length
    · have dck : decide ((k : Int) < (b.length : Int)) = true := by simp; omega
      have dnl := lenH (ty := 22) hh rfl
      have hr0 : b.drop k ≠ [] := by intro h; have := congrArg List.length h; simp at this; omega
      have hrl : (b.drop k).length = b.length - k := List.length_drop
      by_cases ha : acc.length = 32
      · have dca : ((acc.length : Int) == 32) = true := by simp; omega
        repeat (first | (with_reducible refine AW.seq ?_) | (with_reducible refine AW.block ?_) | (with_reducible refine AW.skip ?_) | (with_reducible refine AW.ret ?_) | (with_reducible refine AW.exit ?_) | (with_reducible refine AW.reg hT ?_) | (with_reducible refine AW.drawn (id := 15) hT [0, 1, 2, 3, 4, 5, 6, 7, 8, 9, 10, 11, 12, 13, 14, 15, 16, 17, 18, 19, 20, 21, 22, 23] [[], [], [], [2], [1, 2, 3], [1, 2, 3, 4], [1, 2, 3, 4, 5], [], [], [8], [7, 8, 9], [7, 8, 9, 10], [7, 8, 9, 10, 11], [], [], [14], [], [], [16, 17], [13, 14, 15, 16, 17, 18], [1, 2, 3, 4, 5, 6, 7, 8, 9, 10, 11, 12, 13, 14, 15, 16, 17, 18, 19], [1, 2, 3, 4, 5, 6, 7, 8, 9, 10, 11, 12, 13, 14, 15, 16, 17, 18, 19, 20], [0, 1, 2, 3, 4, 5, 6, 7, 8, 9, 10, 11, 12, 13, 14, 15, 16, 17, 18, 19, 20, 21], [0, 1, 2, 3, 4, 5, 6, 7, 8, 9, 10, 11, 12, 13, 14, 15, 16, 17, 18, 19, 20, 21, 22]] mix (by kernel_rfl) ?_) | ((with_reducible apply DLeft.step hT); (case hoi => ((simp only [List.getElem?_toArray, List.getElem?_cons_zero, List.getElem?_cons_succ]); with_reducible rfl)); (case hg => rfl); (case hk => rfl); (case hr => ((try simp (maxDischargeDepth := 12) only [push_cast, appendX, reduceIte, reduceCtorEq, Nat.reduceSub, Nat.reduceAdd, Nat.reduceMul, Nat.reduceLT, Nat.reduceLeDiff, Nat.reduceEqDiff, Nat.reduceBEq, Int.reduceToNat, Int.reduceLT, Int.reduceLE, Int.reduceEq, Int.reduceNeg, Try.results14, dcml, dc9, dc1, xt3.2, xt3.ltT, xt3.leT, dck, ↓dnl, dca]); with_reducible rfl))) | ((with_reducible refine AW.cond_true ?_ ?_); · rfl) | ((with_reducible refine AW.cond_false ?_ ?_); · rfl) | simp (maxDischargeDepth := 12) only [push_cast, appendX, reduceIte, reduceCtorEq, Nat.reduceSub, Nat.reduceAdd, Nat.reduceMul, Nat.reduceLT, Nat.reduceLeDiff, Nat.reduceEqDiff, Nat.reduceBEq, Int.reduceToNat, Int.reduceLT, Int.reduceLE, Int.reduceEq, Int.reduceNeg, Try.results14, dcml, dc9, dc1, xt3.2, xt3.ltT, xt3.leT, dck, ↓dnl, dca])
        have : decO b = ([], 3) := by
          rw [hdec]
          by_cases h : (b.drop k).length < 4
          · rw [decGo_short hr0 h, if_pos ha]
          · generalize b.drop k = r at h
            match r with
            | a :: b :: c :: t :: r => rw [decGo, if_pos ha]
            | [] | [_] | [_, _] | [_, _, _] => simp at h
        exact ⟨_, by rw [this], by rw [this]; exact Hold.nil _ _, by simp [tOf], xt3⟩
      · have dca : ((acc.length : Int) == 32) = false := by simp; omega
        have dcw0 : IntKind.i64.wrap ((b.length : Int) - (k : Int)) = (b.length : Int) - (k : Int) := wrap_i64 (by omega) (by omega)
        by_cases h : (b.drop k).length < 4
        · have dcs : decide ((b.length : Int) - (k : Int) < 4) = true := by simp; omega
          repeat (first | (with_reducible refine AW.seq ?_) | (with_reducible refine AW.block ?_) | (with_reducible refine AW.skip ?_) | (with_reducible refine AW.ret ?_) | (with_reducible refine AW.exit ?_) | (with_reducible refine AW.reg hT ?_) | (with_reducible refine AW.drawn (id := 15) hT [0, 1, 2, 3, 4, 5, 6, 7, 8, 9, 10, 11, 12, 13, 14, 15, 16, 17, 18, 19, 20, 21, 22, 23] [[], [], [], [2], [1, 2, 3], [1, 2, 3, 4], [1, 2, 3, 4, 5], [], [], [8], [7, 8, 9], [7, 8, 9, 10], [7, 8, 9, 10, 11], [], [], [14], [], [], [16, 17], [13, 14, 15, 16, 17, 18], [1, 2, 3, 4, 5, 6, 7, 8, 9, 10, 11, 12, 13, 14, 15, 16, 17, 18, 19], [1, 2, 3, 4, 5, 6, 7, 8, 9, 10, 11, 12, 13, 14, 15, 16, 17, 18, 19, 20], [0, 1, 2, 3, 4, 5, 6, 7, 8, 9, 10, 11, 12, 13, 14, 15, 16, 17, 18, 19, 20, 21], [0, 1, 2, 3, 4, 5, 6, 7, 8, 9, 10, 11, 12, 13, 14, 15, 16, 17, 18, 19, 20, 21, 22]] mix (by kernel_rfl) ?_) | ((with_reducible apply DLeft.step hT); (case hoi => ((simp only [List.getElem?_toArray, List.getElem?_cons_zero, List.getElem?_cons_succ]); with_reducible rfl)); (case hg => rfl); (case hk => rfl); (case hr => ((try simp (maxDischargeDepth := 12) only [push_cast, appendX, reduceIte, reduceCtorEq, Nat.reduceSub, Nat.reduceAdd, Nat.reduceMul, Nat.reduceLT, Nat.reduceLeDiff, Nat.reduceEqDiff, Nat.reduceBEq, Int.reduceToNat, Int.reduceLT, Int.reduceLE, Int.reduceEq, Int.reduceNeg, Try.results14, dcml, dc9, dc1, xt3.2, xt3.ltT, xt3.leT, dck, ↓dnl, dca, dcw0, dcs]); with_reducible rfl))) | ((with_reducible refine AW.cond_true ?_ ?_); · rfl) | ((with_reducible refine AW.cond_false ?_ ?_); · rfl) | simp (maxDischargeDepth := 12) only [push_cast, appendX, reduceIte, reduceCtorEq, Nat.reduceSub, Nat.reduceAdd, Nat.reduceMul, Nat.reduceLT, Nat.reduceLeDiff, Nat.reduceEqDiff, Nat.reduceBEq, Int.reduceToNat, Int.reduceLT, Int.reduceLE, Int.reduceEq, Int.reduceNeg, Try.results14, dcml, dc9, dc1, xt3.2, xt3.ltT, xt3.leT, dck, ↓dnl, dca, dcw0, dcs])
          have : decO b = ([], 4) := by rw [hdec, decGo_short hr0 h, if_neg ha]
          exact ⟨_, by rw [this], by rw [this]; exact Hold.nil _ _, by simp [tOf], xt3⟩
        · have dcs : decide ((b.length : Int) - (k : Int) < 4) = false := by simp; omega
          obtain ⟨a0, a1, a2, a3, r, hr⟩ : ∃ a0 a1 a2 a3 r', b.drop k = a0 :: a1 :: a2 :: a3 :: r' := by
            generalize b.drop k = r at h
            match r with
            | a :: b :: c :: t :: r => exact ⟨_, _, _, _, _, rfl⟩
            | [] | [_] | [_, _] | [_, _, _] => simp at h
          have hor : Octs (b.drop k) := ho.drop k
          rw [hr] at hor
          have ho0 := hor a0 (by simp)
          have ho1 := hor a1 (by simp)
          have ho2 := hor a2 (by simp)
          have ho3 := hor a3 (by simp)
          have hrl2 : r.length + 4 = b.length - k := by rw [← hrl, hr]; simp
          clear h hr0
          obtain ⟨N, hN⟩ : ∃ N, N = num [a0, a1] := ⟨_, rfl⟩
          have hN0 : 0 ≤ N ∧ N < 65536 := by rw [hN, num2]; omega
          have dca2 : IntKind.i64.wrap ((k : Int) + 2) = (k : Int) + 2 := wrap_i64 (by omega) (by omega)
          have dca3 : IntKind.i64.wrap ((k : Int) + 3) = (k : Int) + 3 := wrap_i64 (by omega) (by omega)
          have dca4 : IntKind.i64.wrap ((k : Int) + 4) = (k : Int) + 4 := wrap_i64 (by omega) (by omega)
          have dct2 : ((k : Int) + 2).toNat = k + 2 := by omega
          have dct3 : ((k : Int) + 3).toNat = k + 3 := by omega
          have dct4 : ((k : Int) + 4).toNat = k + 4 := by omega
          have dcb1 : ((k : Int) ≤ (k : Int) + 2) = True := by simp; omega
          have dcb2 : ((k : Int) + 2 ≤ (b.length : Int)) = True := by simp; omega
          have dcb3 : ((0 : Int) ≤ (k : Int)) = True := by simp
          have dcc : ((bytesD b).take (k + 2)).drop k = bytesD [a0, a1] := by have := drop_cut hr 0 2; simpa using this
          repeat (first | (with_reducible refine AW.seq ?_) | (with_reducible refine AW.block ?_) | (with_reducible refine AW.skip ?_) | (with_reducible refine AW.ret ?_) | (with_reducible refine AW.exit ?_) | (with_reducible refine AW.reg hT ?_) | (with_reducible refine AW.drawn (id := 15) hT [0, 1, 2, 3, 4, 5, 6, 7, 8, 9, 10, 11, 12, 13, 14, 15, 16, 17, 18, 19, 20, 21, 22, 23] [[], [], [], [2], [1, 2, 3], [1, 2, 3, 4], [1, 2, 3, 4, 5], [], [], [8], [7, 8, 9], [7, 8, 9, 10], [7, 8, 9, 10, 11], [], [], [14], [], [], [16, 17], [13, 14, 15, 16, 17, 18], [1, 2, 3, 4, 5, 6, 7, 8, 9, 10, 11, 12, 13, 14, 15, 16, 17, 18, 19], [1, 2, 3, 4, 5, 6, 7, 8, 9, 10, 11, 12, 13, 14, 15, 16, 17, 18, 19, 20], [0, 1, 2, 3, 4, 5, 6, 7, 8, 9, 10, 11, 12, 13, 14, 15, 16, 17, 18, 19, 20, 21], [0, 1, 2, 3, 4, 5, 6, 7, 8, 9, 10, 11, 12, 13, 14, 15, 16, 17, 18, 19, 20, 21, 22]] mix (by kernel_rfl) ?_) | ((with_reducible apply DLeft.step hT); (case hoi => ((simp only [List.getElem?_toArray, List.getElem?_cons_zero, List.getElem?_cons_succ]); with_reducible rfl)); (case hg => rfl); (case hk => rfl); (case hr => ((try simp (maxDischargeDepth := 12) only [push_cast, appendX, reduceIte, reduceCtorEq, Nat.reduceSub, Nat.reduceAdd, Nat.reduceMul, Nat.reduceLT, Nat.reduceLeDiff, Nat.reduceEqDiff, Nat.reduceBEq, Int.reduceToNat, Int.reduceLT, Int.reduceLE, Int.reduceEq, Int.reduceNeg, Try.results14, dcml, dc9, dc1, xt3.2, xt3.ltT, xt3.leT, dck, ↓dnl, dca, dcw0, dcs, dca2, dca3, dca4, dct2, dct3, dct4, dcb1, dcb2, dcb3, dcc]); with_reducible rfl))) | ((with_reducible refine AW.cond_true ?_ ?_); · rfl) | ((with_reducible refine AW.cond_false ?_ ?_); · rfl) | simp (maxDischargeDepth := 12) only [push_cast, appendX, reduceIte, reduceCtorEq, Nat.reduceSub, Nat.reduceAdd, Nat.reduceMul, Nat.reduceLT, Nat.reduceLeDiff, Nat.reduceEqDiff, Nat.reduceBEq, Int.reduceToNat, Int.reduceLT, Int.reduceLE, Int.reduceEq, Int.reduceNeg, Try.results14, dcml, dc9, dc1, xt3.2, xt3.ltT, xt3.leT, dck, ↓dnl, dca, dcw0, dcs, dca2, dca3, dca4, dct2, dct3, dct4, dcb1, dcb2, dcb3, dcc])
          refine AOpsL.call (first := []) (cap := []) hT rfl rfl rfl fn26 rfl (ACalls.mono (number_ok _ [a0, a1] (by intro x hx; simp at hx; rcases hx with h | h <;> subst h <;> assumption) (by simp)) ?_)
          rintro x σ' ⟨rfl, rfl⟩
          rw [← hN]
          have dcw : IntKind.i64.wrap N = N := wrap_i64 (by omega) (by omega)
          have hdec2 := hdec
          rw [hr, decGo, if_neg ha, ← hN] at hdec2
          by_cases hbad : N < 4 ∨ N % 4 ≠ 0
          · rw [if_pos hbad] at hdec2
            by_cases hN4 : N < 4
            · have dcn : decide (N < 4) = true := by simpa using hN4
              repeat (first | (with_reducible refine AW.seq ?_) | (with_reducible refine AW.block ?_) | (with_reducible refine AW.skip ?_) | (with_reducible refine AW.ret ?_) | (with_reducible refine AW.exit ?_) | (with_reducible refine AW.reg hT ?_) | (with_reducible refine AW.drawn (id := 15) hT [0, 1, 2, 3, 4, 5, 6, 7, 8, 9, 10, 11, 12, 13, 14, 15, 16, 17, 18, 19, 20, 21, 22, 23] [[], [], [], [2], [1, 2, 3], [1, 2, 3, 4], [1, 2, 3, 4, 5], [], [], [8], [7, 8, 9], [7, 8, 9, 10], [7, 8, 9, 10, 11], [], [], [14], [], [], [16, 17], [13, 14, 15, 16, 17, 18], [1, 2, 3, 4, 5, 6, 7, 8, 9, 10, 11, 12, 13, 14, 15, 16, 17, 18, 19], [1, 2, 3, 4, 5, 6, 7, 8, 9, 10, 11, 12, 13, 14, 15, 16, 17, 18, 19, 20], [0, 1, 2, 3, 4, 5, 6, 7, 8, 9, 10, 11, 12, 13, 14, 15, 16, 17, 18, 19, 20, 21], [0, 1, 2, 3, 4, 5, 6, 7, 8, 9, 10, 11, 12, 13, 14, 15, 16, 17, 18, 19, 20, 21, 22]] mix (by kernel_rfl) ?_) | ((with_reducible apply DLeft.step hT); (case hoi => ((simp only [List.getElem?_toArray, List.getElem?_cons_zero, List.getElem?_cons_succ]); with_reducible rfl)); (case hg => rfl); (case hk => rfl); (case hr => ((try simp (maxDischargeDepth := 12) only [push_cast, appendX, reduceIte, reduceCtorEq, Nat.reduceSub, Nat.reduceAdd, Nat.reduceMul, Nat.reduceLT, Nat.reduceLeDiff, Nat.reduceEqDiff, Nat.reduceBEq, Int.reduceToNat, Int.reduceLT, Int.reduceLE, Int.reduceEq, Int.reduceNeg, Try.results14, dcml, dc9, dc1, xt3.2, xt3.ltT, xt3.leT, dck, ↓dnl, dca, dcw0, dcs, dca2, dca3, dca4, dct2, dct3, dct4, dcb1, dcb2, dcb3, dcc, dcw, dcn]); with_reducible rfl))) | ((with_reducible refine AW.cond_true ?_ ?_); · rfl) | ((with_reducible refine AW.cond_false ?_ ?_); · rfl) | simp (maxDischargeDepth := 12) only [push_cast, appendX, reduceIte, reduceCtorEq, Nat.reduceSub, Nat.reduceAdd, Nat.reduceMul, Nat.reduceLT, Nat.reduceLeDiff, Nat.reduceEqDiff, Nat.reduceBEq, Int.reduceToNat, Int.reduceLT, Int.reduceLE, Int.reduceEq, Int.reduceNeg, Try.results14, dcml, dc9, dc1, xt3.2, xt3.ltT, xt3.leT, dck, ↓dnl, dca, dcw0, dcs, dca2, dca3, dca4, dct2, dct3, dct4, dcb1, dcb2, dcb3, dcc, dcw, dcn])
              exact ⟨_, by rw [hdec2], by rw [hdec2]; exact Hold.nil _ _, by simp [tOf], xt3⟩
            · have dcn : decide (N < 4) = false := by simpa using hN4
              have dcm : (N.tmod 4 == 0) = false := by rw [Int.tmod_eq_emod_of_nonneg hN0.1]; simp; omega
              repeat (first | (with_reducible refine AW.seq ?_) | (with_reducible refine AW.block ?_) | (with_reducible refine AW.skip ?_) | (with_reducible refine AW.ret ?_) | (with_reducible refine AW.exit ?_) | (with_reducible refine AW.reg hT ?_) | (with_reducible refine AW.drawn (id := 15) hT [0, 1, 2, 3, 4, 5, 6, 7, 8, 9, 10, 11, 12, 13, 14, 15, 16, 17, 18, 19, 20, 21, 22, 23] [[], [], [], [2], [1, 2, 3], [1, 2, 3, 4], [1, 2, 3, 4, 5], [], [], [8], [7, 8, 9], [7, 8, 9, 10], [7, 8, 9, 10, 11], [], [], [14], [], [], [16, 17], [13, 14, 15, 16, 17, 18], [1, 2, 3, 4, 5, 6, 7, 8, 9, 10, 11, 12, 13, 14, 15, 16, 17, 18, 19], [1, 2, 3, 4, 5, 6, 7, 8, 9, 10, 11, 12, 13, 14, 15, 16, 17, 18, 19, 20], [0, 1, 2, 3, 4, 5, 6, 7, 8, 9, 10, 11, 12, 13, 14, 15, 16, 17, 18, 19, 20, 21], [0, 1, 2, 3, 4, 5, 6, 7, 8, 9, 10, 11, 12, 13, 14, 15, 16, 17, 18, 19, 20, 21, 22]] mix (by kernel_rfl) ?_) | ((with_reducible apply DLeft.step hT); (case hoi => ((simp only [List.getElem?_toArray, List.getElem?_cons_zero, List.getElem?_cons_succ]); with_reducible rfl)); (case hg => rfl); (case hk => rfl); (case hr => ((try simp (maxDischargeDepth := 12) only [push_cast, appendX, reduceIte, reduceCtorEq, Nat.reduceSub, Nat.reduceAdd, Nat.reduceMul, Nat.reduceLT, Nat.reduceLeDiff, Nat.reduceEqDiff, Nat.reduceBEq, Int.reduceToNat, Int.reduceLT, Int.reduceLE, Int.reduceEq, Int.reduceNeg, Try.results14, dcml, dc9, dc1, xt3.2, xt3.ltT, xt3.leT, dck, ↓dnl, dca, dcw0, dcs, dca2, dca3, dca4, dct2, dct3, dct4, dcb1, dcb2, dcb3, dcc, dcw, dcn, dcm]); with_reducible rfl))) | ((with_reducible refine AW.cond_true ?_ ?_); · rfl) | ((with_reducible refine AW.cond_false ?_ ?_); · rfl) | simp (maxDischargeDepth := 12) only [push_cast, appendX, reduceIte, reduceCtorEq, Nat.reduceSub, Nat.reduceAdd, Nat.reduceMul, Nat.reduceLT, Nat.reduceLeDiff, Nat.reduceEqDiff, Nat.reduceBEq, Int.reduceToNat, Int.reduceLT, Int.reduceLE, Int.reduceEq, Int.reduceNeg, Try.results14, dcml, dc9, dc1, xt3.2, xt3.ltT, xt3.leT, dck, ↓dnl, dca, dcw0, dcs, dca2, dca3, dca4, dct2, dct3, dct4, dcb1, dcb2, dcb3, dcc, dcw, dcn, dcm])
              exact ⟨_, by rw [hdec2], by rw [hdec2]; exact Hold.nil _ _, by simp [tOf], xt3⟩
          · rw [if_neg hbad] at hdec2
            have dcn : decide (N < 4) = false := by simp; omega
            have dcm : (N.tmod 4 == 0) = true := by rw [Int.tmod_eq_emod_of_nonneg hN0.1]; simp; omega
            obtain ⟨j, rfl⟩ : ∃ j : Nat, N = (j : Int) + 4 := ⟨(N - 4).toNat, by omega⟩
            have hj : (j : Int) + 4 - 4 = (j : Int) := by omega
            rw [hj, Int.toNat_natCast] at hdec2
            by_cases hkr : r.length < j
            · have hkr' : ((r.length : Int) < (j : Int)) := by omega
              have dcr : decide ((b.length : Int) - (k : Int) < (j : Int) + 4) = true := by simp; omega
              rw [if_pos hkr'] at hdec2
              repeat (first | (with_reducible refine AW.seq ?_) | (with_reducible refine AW.block ?_) | (with_reducible refine AW.skip ?_) | (with_reducible refine AW.ret ?_) | (with_reducible refine AW.exit ?_) | (with_reducible refine AW.reg hT ?_) | (with_reducible refine AW.drawn (id := 15) hT [0, 1, 2, 3, 4, 5, 6, 7, 8, 9, 10, 11, 12, 13, 14, 15, 16, 17, 18, 19, 20, 21, 22, 23] [[], [], [], [2], [1, 2, 3], [1, 2, 3, 4], [1, 2, 3, 4, 5], [], [], [8], [7, 8, 9], [7, 8, 9, 10], [7, 8, 9, 10, 11], [], [], [14], [], [], [16, 17], [13, 14, 15, 16, 17, 18], [1, 2, 3, 4, 5, 6, 7, 8, 9, 10, 11, 12, 13, 14, 15, 16, 17, 18, 19], [1, 2, 3, 4, 5, 6, 7, 8, 9, 10, 11, 12, 13, 14, 15, 16, 17, 18, 19, 20], [0, 1, 2, 3, 4, 5, 6, 7, 8, 9, 10, 11, 12, 13, 14, 15, 16, 17, 18, 19, 20, 21], [0, 1, 2, 3, 4, 5, 6, 7, 8, 9, 10, 11, 12, 13, 14, 15, 16, 17, 18, 19, 20, 21, 22]] mix (by kernel_rfl) ?_) | ((with_reducible apply DLeft.step hT); (case hoi => ((simp only [List.getElem?_toArray, List.getElem?_cons_zero, List.getElem?_cons_succ]); with_reducible rfl)); (case hg => rfl); (case hk => rfl); (case hr => ((try simp (maxDischargeDepth := 12) only [push_cast, appendX, reduceIte, reduceCtorEq, Nat.reduceSub, Nat.reduceAdd, Nat.reduceMul, Nat.reduceLT, Nat.reduceLeDiff, Nat.reduceEqDiff, Nat.reduceBEq, Int.reduceToNat, Int.reduceLT, Int.reduceLE, Int.reduceEq, Int.reduceNeg, Try.results14, dcml, dc9, dc1, xt3.2, xt3.ltT, xt3.leT, dck, ↓dnl, dca, dcw0, dcs, dca2, dca3, dca4, dct2, dct3, dct4, dcb1, dcb2, dcb3, dcc, dcw, dcn, dcm, dcr]); with_reducible rfl))) | ((with_reducible refine AW.cond_true ?_ ?_); · rfl) | ((with_reducible refine AW.cond_false ?_ ?_); · rfl) | simp (maxDischargeDepth := 12) only [push_cast, appendX, reduceIte, reduceCtorEq, Nat.reduceSub, Nat.reduceAdd, Nat.reduceMul, Nat.reduceLT, Nat.reduceLeDiff, Nat.reduceEqDiff, Nat.reduceBEq, Int.reduceToNat, Int.reduceLT, Int.reduceLE, Int.reduceEq, Int.reduceNeg, Try.results14, dcml, dc9, dc1, xt3.2, xt3.ltT, xt3.leT, dck, ↓dnl, dca, dcw0, dcs, dca2, dca3, dca4, dct2, dct3, dct4, dcb1, dcb2, dcb3, dcc, dcw, dcn, dcm, dcr])
              exact ⟨_, by rw [hdec2], by rw [hdec2]; exact Hold.nil _ _, by simp [tOf], xt3⟩
            · have hkr' : ¬ ((r.length : Int) < (j : Int)) := by omega
              have dcr : decide ((b.length : Int) - (k : Int) < (j : Int) + 4) = false := by simp; omega
              rw [if_neg hkr'] at hdec2
              have dcq : IntKind.i64.wrap ((k : Int) + ((j : Int) + 4)) = (k : Int) + ((j : Int) + 4) := wrap_i64 (by omega) (by omega)
              have dcq2 : ((k : Int) + ((j : Int) + 4)).toNat = k + (j + 4) := by omega
              have dce2 := drop_at hr 2 a2 rfl
              have dce3 := drop_at hr 3 a3 rfl
              have dcf : ((bytesD b).take (k + (j + 4))).drop (k + 4) = bytesD (r.take j) := by have := drop_cut hr 4 j; rw [show k + (j + 4) = k + 4 + j from by omega]; simpa using this
              have dcg2 : (0 ≤ (k : Int) + 2) = True := by simp; omega
              have dcg3 : (0 ≤ (k : Int) + 3) = True := by simp; omega
              have dcg4 : (0 ≤ (k : Int) + 4) = True := by simp; omega
              have dch2 : ((k : Int) + 2 < (b.length : Int)) = True := by simp; omega
              have dch3 : ((k : Int) + 3 < (b.length : Int)) = True := by simp; omega
              have dch4 : ((k : Int) + 4 ≤ (k : Int) + ((j : Int) + 4)) = True := by simp; omega
              have dch5 : ((k : Int) + ((j : Int) + 4) ≤ (b.length : Int)) = True := by simp; omega
              have dcu2 : IntKind.i64.wrap a2 = a2 := wrap_i64 (by omega) (by omega)
              have dcu3 : IntKind.i64.wrap a3 = a3 := wrap_i64 (by omega) (by omega)
              obtain ⟨d8, σ8, dnapp, hh8, hnew8, xt8⟩ := hh.app1 (ty := 22) (x := eO ⟨a2, a3, r.take j⟩) hnew xt3 rfl rfl (by decide) rfl (by simp; omega)
              simp only [eO_eq] at dnapp
              repeat (first | (with_reducible refine AW.seq ?_) | (with_reducible refine AW.block ?_) | (with_reducible refine AW.skip ?_) | (with_reducible refine AW.ret ?_) | (with_reducible refine AW.exit ?_) | (with_reducible refine AW.reg hT ?_) | (with_reducible refine AW.drawn (id := 15) hT [0, 1, 2, 3, 4, 5, 6, 7, 8, 9, 10, 11, 12, 13, 14, 15, 16, 17, 18, 19, 20, 21, 22, 23] [[], [], [], [2], [1, 2, 3], [1, 2, 3, 4], [1, 2, 3, 4, 5], [], [], [8], [7, 8, 9], [7, 8, 9, 10], [7, 8, 9, 10, 11], [], [], [14], [], [], [16, 17], [13, 14, 15, 16, 17, 18], [1, 2, 3, 4, 5, 6, 7, 8, 9, 10, 11, 12, 13, 14, 15, 16, 17, 18, 19], [1, 2, 3, 4, 5, 6, 7, 8, 9, 10, 11, 12, 13, 14, 15, 16, 17, 18, 19, 20], [0, 1, 2, 3, 4, 5, 6, 7, 8, 9, 10, 11, 12, 13, 14, 15, 16, 17, 18, 19, 20, 21], [0, 1, 2, 3, 4, 5, 6, 7, 8, 9, 10, 11, 12, 13, 14, 15, 16, 17, 18, 19, 20, 21, 22]] mix (by kernel_rfl) ?_) | ((with_reducible apply DLeft.step hT); (case hoi => ((simp only [List.getElem?_toArray, List.getElem?_cons_zero, List.getElem?_cons_succ]); with_reducible rfl)); (case hg => rfl); (case hk => rfl); (case hr => ((try simp (maxDischargeDepth := 12) only [push_cast, appendX, reduceIte, reduceCtorEq, Nat.reduceSub, Nat.reduceAdd, Nat.reduceMul, Nat.reduceLT, Nat.reduceLeDiff, Nat.reduceEqDiff, Nat.reduceBEq, Int.reduceToNat, Int.reduceLT, Int.reduceLE, Int.reduceEq, Int.reduceNeg, Try.results14, dcml, dc9, dc1, xt3.2, xt3.ltT, xt3.leT, dck, ↓dnl, dca, dcw0, dcs, dca2, dca3, dca4, dct2, dct3, dct4, dcb1, dcb2, dcb3, dcc, dcw, dcn, dcm, dcr, dcq, dcq2, dce2, dce3, dcf, dcg2, dcg3, dcg4, dch2, dch3, dch4, dch5, dcu2, dcu3, ↓dnapp, xt8.2, xt8.ltT, xt8.leT]); with_reducible rfl))) | ((with_reducible refine AW.cond_true ?_ ?_); · rfl) | ((with_reducible refine AW.cond_false ?_ ?_); · rfl) | simp (maxDischargeDepth := 12) only [push_cast, appendX, reduceIte, reduceCtorEq, Nat.reduceSub, Nat.reduceAdd, Nat.reduceMul, Nat.reduceLT, Nat.reduceLeDiff, Nat.reduceEqDiff, Nat.reduceBEq, Int.reduceToNat, Int.reduceLT, Int.reduceLE, Int.reduceEq, Int.reduceNeg, Try.results14, dcml, dc9, dc1, xt3.2, xt3.ltT, xt3.leT, dck, ↓dnl, dca, dcw0, dcs, dca2, dca3, dca4, dct2, dct3, dct4, dcb1, dcb2, dcb3, dcc, dcw, dcn, dcm, dcr, dcq, dcq2, dce2, dce3, dcf, dcg2, dcg3, dcg4, dch2, dch3, dch4, dch5, dcu2, dcu3, ↓dnapp, xt8.2, xt8.ltT, xt8.leT])
              obtain ⟨k', hk'⟩ : ∃ k', k' = k + (j + 4) := ⟨_, rfl⟩
              have hkc : (k' : Int) = (k : Int) + ((j : Int) + 4) := by omega
              obtain ⟨f', rfl⟩ : ∃ f', f = f' + 1 := ⟨f - 1, by omega⟩
              have hrd : b.drop k' = r.drop j := by
                have := congrArg (List.drop (j + 4)) hr
                rw [List.drop_drop] at this
                rw [hk', this]; simp
              exact ⟨b.length - k', by omega, f', k', acc ++ [⟨a2, a3, r.take j⟩], d8, rfl, by rw [hrd]; exact hdec2, by omega, by omega, by simp; omega, by simpa using hh8, hnew8, xt8, by (simp only [push_cast, TellsL, tells_any, tells_refl, hkc])⟩
    · have dck : decide ((k : Int) < (b.length : Int)) = false := by simp; omega
      have dncl := hh.cells
      have dnlf := hh.leaf
      repeat (first | (with_reducible refine AW.seq ?_) | (with_reducible refine AW.block ?_) | (with_reducible refine AW.skip ?_) | (with_reducible refine AW.ret ?_) | (with_reducible refine AW.exit ?_) | (with_reducible refine AW.reg hT ?_) | (with_reducible refine AW.drawn (id := 15) hT [0, 1, 2, 3, 4, 5, 6, 7, 8, 9, 10, 11, 12, 13, 14, 15, 16, 17, 18, 19, 20, 21, 22, 23] [[], [], [], [2], [1, 2, 3], [1, 2, 3, 4], [1, 2, 3, 4, 5], [], [], [8], [7, 8, 9], [7, 8, 9, 10], [7, 8, 9, 10, 11], [], [], [14], [], [], [16, 17], [13, 14, 15, 16, 17, 18], [1, 2, 3, 4, 5, 6, 7, 8, 9, 10, 11, 12, 13, 14, 15, 16, 17, 18, 19], [1, 2, 3, 4, 5, 6, 7, 8, 9, 10, 11, 12, 13, 14, 15, 16, 17, 18, 19, 20], [0, 1, 2, 3, 4, 5, 6, 7, 8, 9, 10, 11, 12, 13, 14, 15, 16, 17, 18, 19, 20, 21], [0, 1, 2, 3, 4, 5, 6, 7, 8, 9, 10, 11, 12, 13, 14, 15, 16, 17, 18, 19, 20, 21, 22]] mix (by kernel_rfl) ?_) | ((with_reducible apply DLeft.step hT); (case hoi => ((simp only [List.getElem?_toArray, List.getElem?_cons_zero, List.getElem?_cons_succ]); with_reducible rfl)); (case hg => rfl); (case hk => rfl); (case hr => ((try simp (maxDischargeDepth := 12) only [push_cast, appendX, reduceIte, reduceCtorEq, Nat.reduceSub, Nat.reduceAdd, Nat.reduceMul, Nat.reduceLT, Nat.reduceLeDiff, Nat.reduceEqDiff, Nat.reduceBEq, Int.reduceToNat, Int.reduceLT, Int.reduceLE, Int.reduceEq, Int.reduceNeg, Try.results14, dcml, dc9, dc1, xt3.2, xt3.ltT, xt3.leT, dck, ↓dncl, ↓dnlf]); with_reducible rfl))) | ((with_reducible refine AW.cond_true ?_ ?_); · rfl) | ((with_reducible refine AW.cond_false ?_ ?_); · rfl) | simp (maxDischargeDepth := 12) only [push_cast, appendX, reduceIte, reduceCtorEq, Nat.reduceSub, Nat.reduceAdd, Nat.reduceMul, Nat.reduceLT, Nat.reduceLeDiff, Nat.reduceEqDiff, Nat.reduceBEq, Int.reduceToNat, Int.reduceLT, Int.reduceLE, Int.reduceEq, Int.reduceNeg, Try.results14, dcml, dc9, dc1, xt3.2, xt3.ltT, xt3.leT, dck, ↓dncl, ↓dnlf])
      rw [hdec, List.drop_eq_nil_of_le (by omega)]
      exact ⟨d, rfl, hh, hnew, xt3⟩
end Go.Proofs.Ythfdmcmjlkinaaa.Cm
