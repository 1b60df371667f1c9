/- The law ObjectApart. -/
import Derived.Test.YthfdmcmjlkinaaaObj4
namespace Go.Proofs.Ythfdmcmjlkinaaa.Cm
open Go.RowKit
set_option linter.unusedVariables false
set_option linter.unusedSimpArgs false
set_option maxRecDepth 20000
set_option maxHeartbeats 8000000
theorem apart_no {a b : List Ob} (h : ¬ ((encO a).2 = 0 ∧ (encO b).2 = 0)) : (encO (a ++ b)).2 ≠ 0 := fun h0 => by
  obtain ⟨h1, h2, h3, h4⟩ := encO_ok h0
  rw [obsB_append, List.length_append] at h4
  rw [List.length_append] at h3
  refine h ⟨?_, ?_⟩
  · rw [encO_of (fun x hx => h2 x (List.mem_append_left _ hx)) (by omega) (by omega)]
  · rw [encO_of (fun x hx => h2 x (List.mem_append_right _ hx)) (by omega) (by omega)]
theorem apart_big {a b : List Ob} (ha : (encO a).2 = 0) (hb : (encO b).2 = 0) (h : (encO (a ++ b)).2 ≠ 0) : 32 < a.length + b.length ∨ 4096 < (encO a).1.length + (encO b).1.length := by
  obtain ⟨a1, a2, a3, a4⟩ := encO_ok ha
  obtain ⟨b1, b2, b3, b4⟩ := encO_ok hb
  rw [a1, b1]
  show 32 < a.length + b.length ∨ 4096 < (obsB a).length + (obsB b).length
  refine Classical.byContradiction (fun hn => h ?_)
  rw [encO_of (fun x hx => by rcases List.mem_append.1 hx with hx | hx; exact a2 x hx; exact b2 x hx) (by simp; omega) (by rw [obsB_append]; simp; omega)]
theorem str_app (x y : List Int) : strOfNums (x ++ y) = strOfNums x ++ strOfNums y := by
  apply ByteArray.ext; simp [strOfNums]
theorem both_own (σ : Heap) (a b : List Ob) (ha : a.length ≤ 100) (hb : b.length ≤ 100) : ∃ d1 σ1 d2 σ2, appendX T σ 22 (.sc (.slice none 0 0)) (.imm (a.map eO)) = some (d1, σ1) ∧ appendX T σ1 22 d1 (.imm (b.map eO)) = some (d2, σ2) ∧ Hold σ2 d2 45 ((a ++ b).map eO) ∧ (∀ q ∈ tOf d2, σ.n ≤ q) ∧ Ext [] σ σ2 := by
  have hall : ∀ l : List Ob, ((l.map eO).all fun el => el.length == 3) = true := fun l => by rw [List.all_eq_true]; intro x hx; obtain ⟨y, _, rfl⟩ := List.mem_map.1 hx; rfl
  obtain ⟨d1, σ1, h1, hh1, hx1, hn1⟩ := (Hold.nil σ 45).append0 (T := T) (ty := 22) (x := .imm (a.map eO)) (xs := a.map eO) rfl rfl (by decide) rfl (hall a) (by simp; omega)
  have hx1' : Ext [] σ σ1 := hx1
  obtain ⟨d2, σ2, h2, hh2, hn2, hx2, _⟩ := hh1.appM (σ0 := σ) (ty := 22) (x := .imm (b.map eO)) (xs := b.map eO) (fun q hq => by
    rcases Nat.lt_or_ge q σ.n with h | h
    · have := hn1 q h hq; simp [tOf] at this
    · exact h) hx1' rfl rfl (by decide) rfl (hall b) (by simp; omega)
  exact ⟨d1, σ1, d2, σ2, h1, h2, by rw [List.map_append]; simpa using hh2, hn2, hx2⟩
theorem both_bytes (σ : Heap) (a b : List Int) (ha : a.length ≤ 5000) (hb : b.length ≤ 5000) : ∃ d1 σ1 d2 σ2, appendX T σ 25 (.sc (.slice none 0 0)) (.imm (bytesD a)) = some (d1, σ1) ∧ appendX T σ1 25 d1 (.imm (bytesD b)) = some (d2, σ2) ∧ Hold σ2 d2 5 (bytesD (a ++ b)) ∧ (∀ q ∈ tOf d2, σ.n ≤ q) ∧ Ext [] σ σ2 := by
  obtain ⟨d1, σ1, h1, hh1, hx1, hn1⟩ := (Hold.nil σ 5).append0 (T := T) (ty := 25) (x := .imm (bytesD a)) (xs := bytesD a) rfl rfl (by decide) rfl (bytes_all a) (by rw [bytesD_length]; simp; omega)
  have hx1' : Ext [] σ σ1 := hx1
  obtain ⟨d2, σ2, h2, hh2, hn2, hx2, _⟩ := hh1.appM (σ0 := σ) (ty := 25) (x := .imm (bytesD b)) (xs := bytesD b) (fun q hq => by
    rcases Nat.lt_or_ge q σ.n with h | h
    · have := hn1 q h hq; simp [tOf] at this
    · exact h) hx1' rfl rfl (by decide) rfl (bytes_all b) (by rw [bytesD_length]; simp [bytesD_length]; omega)
  exact ⟨d1, σ1, d2, σ2, h1, h2, by rw [bytesD_append]; simpa using hh2, hn2, hx2⟩
theorem apart_ok (a b : List Ob) (h : a.length ≤ maxLen ∧ ∀ y ∈ a, w45 y) (h2 : b.length ≤ maxLen ∧ ∀ y ∈ b, w45 y) : ACalls Try.prog 6 [.imm (a.map eO), .imm (b.map eO)] ⟨[]⟩ (fun x _ => x = .sc (.bool true)) := by
  generalize (⟨[]⟩ : Heap) = σ
  have dcla : (a.map eO).length = a.length := by simp
  have dclb : (b.map eO).length = b.length := by simp
  refine ACalls.code hT Try.func6 rfl ?_
  simp only [Try.ntmps6, List.length_cons, List.length_nil, Nat.reduceSub, Nat.reduceAdd, List.replicate, List.cons_append, List.nil_append]
  repeat (first | (with_reducible refine AW.seq ?_) | (with_reducible refine AW.block ?_) | (with_reducible refine AW.skip ?_) | (with_reducible refine AW.ret ?_) | (with_reducible refine AW.exit ?_) | (with_reducible refine AW.reg hT ?_) | ((with_reducible refine AW.cond_true ?_ ?_); · rfl) | ((with_reducible refine AW.cond_false ?_ ?_); · rfl) | simp (maxDischargeDepth := 12) only [push_cast, appendX, reduceIte, reduceCtorEq, Nat.reduceSub, Nat.reduceAdd, Nat.reduceMul, Nat.reduceLT, Nat.reduceLeDiff, Nat.reduceEqDiff, Nat.reduceBEq, Int.reduceToNat, Int.reduceLT, Int.reduceLE, Int.reduceEq, Int.reduceNeg, Try.results6, dcla, dclb])
  refine AOpsL.call (first := []) (cap := []) hT rfl rfl rfl fn7 rfl (ACalls.mono (alive_ok _) ?_)
  rintro y σ1 ⟨rfl, xt1⟩
  repeat (first | (with_reducible refine AW.seq ?_) | (with_reducible refine AW.block ?_) | (with_reducible refine AW.skip ?_) | (with_reducible refine AW.ret ?_) | (with_reducible refine AW.exit ?_) | (with_reducible refine AW.reg hT ?_) | ((with_reducible refine AW.cond_true ?_ ?_); · rfl) | ((with_reducible refine AW.cond_false ?_ ?_); · rfl) | simp (maxDischargeDepth := 12) only [push_cast, appendX, reduceIte, reduceCtorEq, Nat.reduceSub, Nat.reduceAdd, Nat.reduceMul, Nat.reduceLT, Nat.reduceLeDiff, Nat.reduceEqDiff, Nat.reduceBEq, Int.reduceToNat, Int.reduceLT, Int.reduceLE, Int.reduceEq, Int.reduceNeg, Try.results6, dcla, dclb, xt1.2, xt1.ltT, xt1.leT])
  refine AOpsL.call (first := []) (cap := []) hT rfl rfl rfl fn8 rfl (ACalls.mono (fits_ok _ a) ?_)
  rintro y σ' ⟨rfl, rfl⟩
  by_cases hfa : fitsO a
  · have dcfa : decide (fitsO a) = true := by simpa using hfa
    repeat (first | (with_reducible refine AW.seq ?_) | (with_reducible refine AW.block ?_) | (with_reducible refine AW.skip ?_) | (with_reducible refine AW.ret ?_) | (with_reducible refine AW.exit ?_) | (with_reducible refine AW.reg hT ?_) | ((with_reducible refine AW.cond_true ?_ ?_); · rfl) | ((with_reducible refine AW.cond_false ?_ ?_); · rfl) | simp (maxDischargeDepth := 12) only [push_cast, appendX, reduceIte, reduceCtorEq, Nat.reduceSub, Nat.reduceAdd, Nat.reduceMul, Nat.reduceLT, Nat.reduceLeDiff, Nat.reduceEqDiff, Nat.reduceBEq, Int.reduceToNat, Int.reduceLT, Int.reduceLE, Int.reduceEq, Int.reduceNeg, Try.results6, dcla, dclb, xt1.2, xt1.ltT, xt1.leT, dcfa])
    refine AOpsL.call (first := []) (cap := []) hT rfl rfl rfl fn8 rfl (ACalls.mono (fits_ok _ b) ?_)
    rintro y σ' ⟨rfl, rfl⟩
    by_cases hfb : fitsO b
    · have dcfb : decide (fitsO b) = true := by simpa using hfb
      have hla := hfa.1
      have hlb := hfb.1
      repeat (first | (with_reducible refine AW.seq ?_) | (with_reducible refine AW.block ?_) | (with_reducible refine AW.skip ?_) | (with_reducible refine AW.ret ?_) | (with_reducible refine AW.exit ?_) | (with_reducible refine AW.reg hT ?_) | ((with_reducible refine AW.cond_true ?_ ?_); · rfl) | ((with_reducible refine AW.cond_false ?_ ?_); · rfl) | simp (maxDischargeDepth := 12) only [push_cast, appendX, reduceIte, reduceCtorEq, Nat.reduceSub, Nat.reduceAdd, Nat.reduceMul, Nat.reduceLT, Nat.reduceLeDiff, Nat.reduceEqDiff, Nat.reduceBEq, Int.reduceToNat, Int.reduceLT, Int.reduceLE, Int.reduceEq, Int.reduceNeg, Try.results6, dcla, dclb, xt1.2, xt1.ltT, xt1.leT, dcfa, dcfb])
      refine AOpsL.call (first := []) (cap := []) hT rfl rfl rfl fn10 rfl (ACalls.mono (theirs_ok _ a (by omega)) ?_)
      rintro y σ2 ⟨rfl, xt2⟩
      repeat (first | (with_reducible refine AW.seq ?_) | (with_reducible refine AW.block ?_) | (with_reducible refine AW.skip ?_) | (with_reducible refine AW.ret ?_) | (with_reducible refine AW.exit ?_) | (with_reducible refine AW.reg hT ?_) | ((with_reducible refine AW.cond_true ?_ ?_); · rfl) | ((with_reducible refine AW.cond_false ?_ ?_); · rfl) | simp (maxDischargeDepth := 12) only [push_cast, appendX, reduceIte, reduceCtorEq, Nat.reduceSub, Nat.reduceAdd, Nat.reduceMul, Nat.reduceLT, Nat.reduceLeDiff, Nat.reduceEqDiff, Nat.reduceBEq, Int.reduceToNat, Int.reduceLT, Int.reduceLE, Int.reduceEq, Int.reduceNeg, Try.results6, dcla, dclb, xt1.2, xt1.ltT, xt1.leT, dcfa, dcfb, xt2.2, xt2.ltT, xt2.leT])
      refine AOpsL.call (first := []) (cap := []) hT rfl rfl rfl fn9 rfl (ACalls.mono (encode_ok _ a (by omega)) ?_)
      rintro y σ3 ⟨rfl, xt3⟩
      repeat (first | (with_reducible refine AW.seq ?_) | (with_reducible refine AW.block ?_) | (with_reducible refine AW.skip ?_) | (with_reducible refine AW.ret ?_) | (with_reducible refine AW.exit ?_) | (with_reducible refine AW.reg hT ?_) | ((with_reducible refine AW.cond_true ?_ ?_); · rfl) | ((with_reducible refine AW.cond_false ?_ ?_); · rfl) | simp (maxDischargeDepth := 12) only [push_cast, appendX, reduceIte, reduceCtorEq, Nat.reduceSub, Nat.reduceAdd, Nat.reduceMul, Nat.reduceLT, Nat.reduceLeDiff, Nat.reduceEqDiff, Nat.reduceBEq, Int.reduceToNat, Int.reduceLT, Int.reduceLE, Int.reduceEq, Int.reduceNeg, Try.results6, dcla, dclb, xt1.2, xt1.ltT, xt1.leT, dcfa, dcfb, xt2.2, xt2.ltT, xt2.leT, xt3.2, xt3.ltT, xt3.leT])
      refine AOpsL.call (first := []) (cap := []) hT rfl rfl rfl fn10 rfl (ACalls.mono (theirs_ok _ b (by omega)) ?_)
      rintro y σ4 ⟨rfl, xt4⟩
      repeat (first | (with_reducible refine AW.seq ?_) | (with_reducible refine AW.block ?_) | (with_reducible refine AW.skip ?_) | (with_reducible refine AW.ret ?_) | (with_reducible refine AW.exit ?_) | (with_reducible refine AW.reg hT ?_) | ((with_reducible refine AW.cond_true ?_ ?_); · rfl) | ((with_reducible refine AW.cond_false ?_ ?_); · rfl) | simp (maxDischargeDepth := 12) only [push_cast, appendX, reduceIte, reduceCtorEq, Nat.reduceSub, Nat.reduceAdd, Nat.reduceMul, Nat.reduceLT, Nat.reduceLeDiff, Nat.reduceEqDiff, Nat.reduceBEq, Int.reduceToNat, Int.reduceLT, Int.reduceLE, Int.reduceEq, Int.reduceNeg, Try.results6, dcla, dclb, xt1.2, xt1.ltT, xt1.leT, dcfa, dcfb, xt2.2, xt2.ltT, xt2.leT, xt3.2, xt3.ltT, xt3.leT, xt4.2, xt4.ltT, xt4.leT])
      refine AOpsL.call (first := []) (cap := []) hT rfl rfl rfl fn9 rfl (ACalls.mono (encode_ok _ b (by omega)) ?_)
      rintro y σ5 ⟨rfl, xt5⟩
      obtain ⟨d1, σ6, d2, σ7, dnapp1, dnapp2, hh7, hn7, xt7⟩ := both_own σ5 a b hla hlb
      repeat (first | (with_reducible refine AW.seq ?_) | (with_reducible refine AW.block ?_) | (with_reducible refine AW.skip ?_) | (with_reducible refine AW.ret ?_) | (with_reducible refine AW.exit ?_) | (with_reducible refine AW.reg hT ?_) | ((with_reducible refine AW.cond_true ?_ ?_); · rfl) | ((with_reducible refine AW.cond_false ?_ ?_); · rfl) | simp (maxDischargeDepth := 12) only [push_cast, appendX, reduceIte, reduceCtorEq, Nat.reduceSub, Nat.reduceAdd, Nat.reduceMul, Nat.reduceLT, Nat.reduceLeDiff, Nat.reduceEqDiff, Nat.reduceBEq, Int.reduceToNat, Int.reduceLT, Int.reduceLE, Int.reduceEq, Int.reduceNeg, Try.results6, dcla, dclb, xt1.2, xt1.ltT, xt1.leT, dcfa, dcfb, xt2.2, xt2.ltT, xt2.leT, xt3.2, xt3.ltT, xt3.leT, xt4.2, xt4.ltT, xt4.leT, xt5.2, xt5.ltT, xt5.leT, ↓dnapp1, ↓dnapp2, xt7.2, xt7.ltT, xt7.leT])
      refine AOpsL.call (first := []) (cap := []) hT rfl rfl rfl fn10 rfl (ACalls.mono (ACalls.holdArg (j := 0) (R := fun x _ => x = .imm ((a ++ b).map eO)) hh7 rfl (fun σ8 _ => (theirs_ok σ8 (a ++ b) (by simp; omega)).mono (fun x _ hh => hh.1))) ?_)
      rintro y σ8 rfl
      repeat (first | (with_reducible refine AW.seq ?_) | (with_reducible refine AW.block ?_) | (with_reducible refine AW.skip ?_) | (with_reducible refine AW.ret ?_) | (with_reducible refine AW.exit ?_) | (with_reducible refine AW.reg hT ?_) | ((with_reducible refine AW.cond_true ?_ ?_); · rfl) | ((with_reducible refine AW.cond_false ?_ ?_); · rfl) | simp (maxDischargeDepth := 12) only [push_cast, appendX, reduceIte, reduceCtorEq, Nat.reduceSub, Nat.reduceAdd, Nat.reduceMul, Nat.reduceLT, Nat.reduceLeDiff, Nat.reduceEqDiff, Nat.reduceBEq, Int.reduceToNat, Int.reduceLT, Int.reduceLE, Int.reduceEq, Int.reduceNeg, Try.results6, dcla, dclb, xt1.2, xt1.ltT, xt1.leT, dcfa, dcfb, xt2.2, xt2.ltT, xt2.leT, xt3.2, xt3.ltT, xt3.leT, xt4.2, xt4.ltT, xt4.leT, xt5.2, xt5.ltT, xt5.leT, ↓dnapp1, ↓dnapp2, xt7.2, xt7.ltT, xt7.leT])
      refine AOpsL.call (first := []) (cap := []) hT rfl rfl rfl fn9 rfl (ACalls.mono (encode_ok _ (a ++ b) (by simp; omega)) ?_)
      rintro y σ9 ⟨rfl, xt9⟩
      by_cases ha : (encO a).2 = 0
      · have dca : ((encO a).2 == 0) = true := by simpa using ha
        by_cases hb : (encO b).2 = 0
        · have dcb : ((encO b).2 == 0) = true := by simpa using hb
          obtain ⟨a1, a2, a3, a4⟩ := encO_ok ha
          obtain ⟨b1, b2, b3, b4⟩ := encO_ok hb
          have dcba : (bytesD (encO a).1).length = (encO a).1.length := bytesD_length _
          have dcbb : (bytesD (encO b).1).length = (encO b).1.length := bytesD_length _
          have hxa : (encO a).1.length ≤ 4096 := by rw [a1]; exact a4
          have hxb : (encO b).1.length ≤ 4096 := by rw [b1]; exact b4
          have dcw : IntKind.i64.wrap ((a.length : Int) + (b.length : Int)) = (a.length : Int) + (b.length : Int) := wrap_i64 (by omega) (by omega)
          have dcw2 : IntKind.i64.wrap (((encO a).1.length : Int) + ((encO b).1.length : Int)) = ((encO a).1.length : Int) + ((encO b).1.length : Int) := wrap_i64 (by omega) (by omega)
          by_cases hg : (encO (a ++ b)).2 = 0
          · have dcg : ((encO (a ++ b)).2 == 0) = true := by simpa using hg
            have hbk := back_enc hg
            obtain ⟨g1, g2, g3, g4⟩ := encO_ok hg
            have hxy : (encO (a ++ b)).1 = (encO a).1 ++ (encO b).1 := by rw [g1, a1, b1]; exact obsB_append a b
            have hoc : Octs ((encO a).1 ++ (encO b).1) := by
              rw [← hxy, g1]
              exact octs_obsB g2 (fun x hx => by
                rcases List.mem_append.1 hx with hx | hx
                · exact octs_wf (h.2 x hx).2.2.2
                · exact octs_wf (h2.2 x hx).2.2.2)
            rw [hxy] at hbk ⊢
            obtain ⟨d3, σ10, d4, σ11, dnapp3, dnapp4, hh11, hn11, xt11⟩ := both_bytes σ9 (encO a).1 (encO b).1 (by omega) (by omega)
            repeat (first | (with_reducible refine AW.seq ?_) | (with_reducible refine AW.block ?_) | (with_reducible refine AW.skip ?_) | (with_reducible refine AW.ret ?_) | (with_reducible refine AW.exit ?_) | (with_reducible refine AW.reg hT ?_) | ((with_reducible refine AW.cond_true ?_ ?_); · rfl) | ((with_reducible refine AW.cond_false ?_ ?_); · rfl) | simp (maxDischargeDepth := 12) only [push_cast, appendX, reduceIte, reduceCtorEq, Nat.reduceSub, Nat.reduceAdd, Nat.reduceMul, Nat.reduceLT, Nat.reduceLeDiff, Nat.reduceEqDiff, Nat.reduceBEq, Int.reduceToNat, Int.reduceLT, Int.reduceLE, Int.reduceEq, Int.reduceNeg, Try.results6, dcla, dclb, xt1.2, xt1.ltT, xt1.leT, dcfa, dcfb, xt2.2, xt2.ltT, xt2.leT, xt3.2, xt3.ltT, xt3.leT, xt4.2, xt4.ltT, xt4.leT, xt5.2, xt5.ltT, xt5.leT, ↓dnapp1, ↓dnapp2, xt7.2, xt7.ltT, xt7.leT, xt9.2, xt9.ltT, xt9.leT, dca, dcb, dcba, dcbb, dcw, dcw2, dcg, ↓dnapp3, ↓dnapp4, xt11.2, xt11.ltT, xt11.leT])
            refine AOpsL.call (first := []) (cap := []) hT rfl rfl rfl fn13 rfl (ACalls.mono (ACalls.holdArg (j := 0) (R := fun x _ => x = .tup [.imm ((a ++ b).map eO), .sc (.int .i64 0)]) hh11 rfl (fun σ12 _ => (decode_ok σ12 ((encO a).1 ++ (encO b).1) hoc (by simp; omega)).mono (fun x _ hh => by rw [hh.1, hbk]))) ?_)
            rintro y σ12 rfl
            have dcsz : (strOfNums (encO a).1).size + (strOfNums (encO b).1).size ≤ 9223372036854775807 := by rw [strOfNums_size, strOfNums_size]; omega
            have dcst : ((strOfNums ((encO a).1 ++ (encO b).1)).toList == (strOfNums (encO a).1 ++ strOfNums (encO b).1).toList) = true := by rw [str_app]; simp
            repeat (first | (with_reducible refine AW.seq ?_) | (with_reducible refine AW.block ?_) | (with_reducible refine AW.skip ?_) | (with_reducible refine AW.ret ?_) | (with_reducible refine AW.exit ?_) | (with_reducible refine AW.reg hT ?_) | ((with_reducible refine AW.cond_true ?_ ?_); · rfl) | ((with_reducible refine AW.cond_false ?_ ?_); · rfl) | simp (maxDischargeDepth := 12) only [push_cast, appendX, reduceIte, reduceCtorEq, Nat.reduceSub, Nat.reduceAdd, Nat.reduceMul, Nat.reduceLT, Nat.reduceLeDiff, Nat.reduceEqDiff, Nat.reduceBEq, Int.reduceToNat, Int.reduceLT, Int.reduceLE, Int.reduceEq, Int.reduceNeg, Try.results6, dcla, dclb, xt1.2, xt1.ltT, xt1.leT, dcfa, dcfb, xt2.2, xt2.ltT, xt2.leT, xt3.2, xt3.ltT, xt3.leT, xt4.2, xt4.ltT, xt4.leT, xt5.2, xt5.ltT, xt5.leT, ↓dnapp1, ↓dnapp2, xt7.2, xt7.ltT, xt7.leT, xt9.2, xt9.ltT, xt9.leT, dca, dcb, dcba, dcbb, dcw, dcw2, dcg, ↓dnapp3, ↓dnapp4, xt11.2, xt11.ltT, xt11.leT, dcsz, dcst])
            refine AOpsL.call (first := []) (cap := []) hT rfl rfl rfl fn16 rfl (ACalls.mono (ours_ok _ (a ++ b) (by simp; omega)) ?_)
            rintro y σ13 ⟨rfl, xt13⟩
            obtain ⟨d5, σ14, d6, σ15, dnapp5, dnapp6, hh15, hn15, xt15⟩ := both_own σ13 a b hla hlb
            repeat (first | (with_reducible refine AW.seq ?_) | (with_reducible refine AW.block ?_) | (with_reducible refine AW.skip ?_) | (with_reducible refine AW.ret ?_) | (with_reducible refine AW.exit ?_) | (with_reducible refine AW.reg hT ?_) | ((with_reducible refine AW.cond_true ?_ ?_); · rfl) | ((with_reducible refine AW.cond_false ?_ ?_); · rfl) | simp (maxDischargeDepth := 12) only [push_cast, appendX, reduceIte, reduceCtorEq, Nat.reduceSub, Nat.reduceAdd, Nat.reduceMul, Nat.reduceLT, Nat.reduceLeDiff, Nat.reduceEqDiff, Nat.reduceBEq, Int.reduceToNat, Int.reduceLT, Int.reduceLE, Int.reduceEq, Int.reduceNeg, Try.results6, dcla, dclb, xt1.2, xt1.ltT, xt1.leT, dcfa, dcfb, xt2.2, xt2.ltT, xt2.leT, xt3.2, xt3.ltT, xt3.leT, xt4.2, xt4.ltT, xt4.leT, xt5.2, xt5.ltT, xt5.leT, ↓dnapp1, ↓dnapp2, xt7.2, xt7.ltT, xt7.leT, xt9.2, xt9.ltT, xt9.leT, dca, dcb, dcba, dcbb, dcw, dcw2, dcg, ↓dnapp3, ↓dnapp4, xt11.2, xt11.ltT, xt11.leT, dcsz, dcst, xt13.2, xt13.ltT, xt13.leT, ↓dnapp5, ↓dnapp6, xt15.2, xt15.ltT, xt15.leT])
            refine AOpsL.call (first := []) (cap := []) hT rfl rfl rfl fn15 rfl (ACalls.mono (ACalls.holdArg (j := 1) (R := fun x _ => x = .sc (.bool true)) hh15 rfl (fun σ16 _ => (same_ok σ16 (a ++ b) (by simp; omega)).mono (fun x _ hh => hh.1))) ?_)
            rintro y σ16 rfl
            repeat (first | (with_reducible refine AW.seq ?_) | (with_reducible refine AW.block ?_) | (with_reducible refine AW.skip ?_) | (with_reducible refine AW.ret ?_) | (with_reducible refine AW.exit ?_) | (with_reducible refine AW.reg hT ?_) | ((with_reducible refine AW.cond_true ?_ ?_); · rfl) | ((with_reducible refine AW.cond_false ?_ ?_); · rfl) | simp (maxDischargeDepth := 12) only [push_cast, appendX, reduceIte, reduceCtorEq, Nat.reduceSub, Nat.reduceAdd, Nat.reduceMul, Nat.reduceLT, Nat.reduceLeDiff, Nat.reduceEqDiff, Nat.reduceBEq, Int.reduceToNat, Int.reduceLT, Int.reduceLE, Int.reduceEq, Int.reduceNeg, Try.results6, dcla, dclb, xt1.2, xt1.ltT, xt1.leT, dcfa, dcfb, xt2.2, xt2.ltT, xt2.leT, xt3.2, xt3.ltT, xt3.leT, xt4.2, xt4.ltT, xt4.leT, xt5.2, xt5.ltT, xt5.leT, ↓dnapp1, ↓dnapp2, xt7.2, xt7.ltT, xt7.leT, xt9.2, xt9.ltT, xt9.leT, dca, dcb, dcba, dcbb, dcw, dcw2, dcg, ↓dnapp3, ↓dnapp4, xt11.2, xt11.ltT, xt11.leT, dcsz, dcst, xt13.2, xt13.ltT, xt13.leT, ↓dnapp5, ↓dnapp6, xt15.2, xt15.ltT, xt15.leT])
          · have dcg : ((encO (a ++ b)).2 == 0) = false := by simpa using hg
            have hbig := apart_big ha hb hg
            by_cases hl : 32 < a.length + b.length
            · have dcl : decide (32 < (a.length : Int) + (b.length : Int)) = true := by simp; omega
              repeat (first | (with_reducible refine AW.seq ?_) | (with_reducible refine AW.block ?_) | (with_reducible refine AW.skip ?_) | (with_reducible refine AW.ret ?_) | (with_reducible refine AW.exit ?_) | (with_reducible refine AW.reg hT ?_) | ((with_reducible refine AW.cond_true ?_ ?_); · rfl) | ((with_reducible refine AW.cond_false ?_ ?_); · rfl) | simp (maxDischargeDepth := 12) only [push_cast, appendX, reduceIte, reduceCtorEq, Nat.reduceSub, Nat.reduceAdd, Nat.reduceMul, Nat.reduceLT, Nat.reduceLeDiff, Nat.reduceEqDiff, Nat.reduceBEq, Int.reduceToNat, Int.reduceLT, Int.reduceLE, Int.reduceEq, Int.reduceNeg, Try.results6, dcla, dclb, xt1.2, xt1.ltT, xt1.leT, dcfa, dcfb, xt2.2, xt2.ltT, xt2.leT, xt3.2, xt3.ltT, xt3.leT, xt4.2, xt4.ltT, xt4.leT, xt5.2, xt5.ltT, xt5.leT, ↓dnapp1, ↓dnapp2, xt7.2, xt7.ltT, xt7.leT, xt9.2, xt9.ltT, xt9.leT, dca, dcb, dcba, dcbb, dcw, dcw2, dcg, dcl])
            · have dcl : decide (32 < (a.length : Int) + (b.length : Int)) = false := by simp; omega
              have dcl2 : decide (4096 < ((encO a).1.length : Int) + ((encO b).1.length : Int)) = true := by simp; omega
              repeat (first | (with_reducible refine AW.seq ?_) | (with_reducible refine AW.block ?_) | (with_reducible refine AW.skip ?_) | (with_reducible refine AW.ret ?_) | (with_reducible refine AW.exit ?_) | (with_reducible refine AW.reg hT ?_) | ((with_reducible refine AW.cond_true ?_ ?_); · rfl) | ((with_reducible refine AW.cond_false ?_ ?_); · rfl) | simp (maxDischargeDepth := 12) only [push_cast, appendX, reduceIte, reduceCtorEq, Nat.reduceSub, Nat.reduceAdd, Nat.reduceMul, Nat.reduceLT, Nat.reduceLeDiff, Nat.reduceEqDiff, Nat.reduceBEq, Int.reduceToNat, Int.reduceLT, Int.reduceLE, Int.reduceEq, Int.reduceNeg, Try.results6, dcla, dclb, xt1.2, xt1.ltT, xt1.leT, dcfa, dcfb, xt2.2, xt2.ltT, xt2.leT, xt3.2, xt3.ltT, xt3.leT, xt4.2, xt4.ltT, xt4.leT, xt5.2, xt5.ltT, xt5.leT, ↓dnapp1, ↓dnapp2, xt7.2, xt7.ltT, xt7.leT, xt9.2, xt9.ltT, xt9.leT, dca, dcb, dcba, dcbb, dcw, dcw2, dcg, dcl, dcl2])
        · have dcb : ((encO b).2 == 0) = false := by simpa using hb
          have dcg : ((encO (a ++ b)).2 == 0) = false := by simpa using apart_no (a := a) (b := b) (fun h => hb h.2)
          repeat (first | (with_reducible refine AW.seq ?_) | (with_reducible refine AW.block ?_) | (with_reducible refine AW.skip ?_) | (with_reducible refine AW.ret ?_) | (with_reducible refine AW.exit ?_) | (with_reducible refine AW.reg hT ?_) | ((with_reducible refine AW.cond_true ?_ ?_); · rfl) | ((with_reducible refine AW.cond_false ?_ ?_); · rfl) | simp (maxDischargeDepth := 12) only [push_cast, appendX, reduceIte, reduceCtorEq, Nat.reduceSub, Nat.reduceAdd, Nat.reduceMul, Nat.reduceLT, Nat.reduceLeDiff, Nat.reduceEqDiff, Nat.reduceBEq, Int.reduceToNat, Int.reduceLT, Int.reduceLE, Int.reduceEq, Int.reduceNeg, Try.results6, dcla, dclb, xt1.2, xt1.ltT, xt1.leT, dcfa, dcfb, xt2.2, xt2.ltT, xt2.leT, xt3.2, xt3.ltT, xt3.leT, xt4.2, xt4.ltT, xt4.leT, xt5.2, xt5.ltT, xt5.leT, ↓dnapp1, ↓dnapp2, xt7.2, xt7.ltT, xt7.leT, xt9.2, xt9.ltT, xt9.leT, dca, dcb, dcg])
      · have dca : ((encO a).2 == 0) = false := by simpa using ha
        have dcg : ((encO (a ++ b)).2 == 0) = false := by simpa using apart_no (a := a) (b := b) (fun h => ha h.1)
        repeat (first | (with_reducible refine AW.seq ?_) | (with_reducible refine AW.block ?_) | (with_reducible refine AW.skip ?_) | (with_reducible refine AW.ret ?_) | (with_reducible refine AW.exit ?_) | (with_reducible refine AW.reg hT ?_) | ((with_reducible refine AW.cond_true ?_ ?_); · rfl) | ((with_reducible refine AW.cond_false ?_ ?_); · rfl) | simp (maxDischargeDepth := 12) only [push_cast, appendX, reduceIte, reduceCtorEq, Nat.reduceSub, Nat.reduceAdd, Nat.reduceMul, Nat.reduceLT, Nat.reduceLeDiff, Nat.reduceEqDiff, Nat.reduceBEq, Int.reduceToNat, Int.reduceLT, Int.reduceLE, Int.reduceEq, Int.reduceNeg, Try.results6, dcla, dclb, xt1.2, xt1.ltT, xt1.leT, dcfa, dcfb, xt2.2, xt2.ltT, xt2.leT, xt3.2, xt3.ltT, xt3.leT, xt4.2, xt4.ltT, xt4.leT, xt5.2, xt5.ltT, xt5.leT, ↓dnapp1, ↓dnapp2, xt7.2, xt7.ltT, xt7.leT, xt9.2, xt9.ltT, xt9.leT, dca, dcg])
    · have dcfb : decide (fitsO b) = false := by simpa using hfb
      repeat (first | (with_reducible refine AW.seq ?_) | (with_reducible refine AW.block ?_) | (with_reducible refine AW.skip ?_) | (with_reducible refine AW.ret ?_) | (with_reducible refine AW.exit ?_) | (with_reducible refine AW.reg hT ?_) | ((with_reducible refine AW.cond_true ?_ ?_); · rfl) | ((with_reducible refine AW.cond_false ?_ ?_); · rfl) | simp (maxDischargeDepth := 12) only [push_cast, appendX, reduceIte, reduceCtorEq, Nat.reduceSub, Nat.reduceAdd, Nat.reduceMul, Nat.reduceLT, Nat.reduceLeDiff, Nat.reduceEqDiff, Nat.reduceBEq, Int.reduceToNat, Int.reduceLT, Int.reduceLE, Int.reduceEq, Int.reduceNeg, Try.results6, dcla, dclb, xt1.2, xt1.ltT, xt1.leT, dcfa, dcfb])
  · have dcfa : decide (fitsO a) = false := by simpa using hfa
    repeat (first | (with_reducible refine AW.seq ?_) | (with_reducible refine AW.block ?_) | (with_reducible refine AW.skip ?_) | (with_reducible refine AW.ret ?_) | (with_reducible refine AW.exit ?_) | (with_reducible refine AW.reg hT ?_) | ((with_reducible refine AW.cond_true ?_ ?_); · rfl) | ((with_reducible refine AW.cond_false ?_ ?_); · rfl) | simp (maxDischargeDepth := 12) only [push_cast, appendX, reduceIte, reduceCtorEq, Nat.reduceSub, Nat.reduceAdd, Nat.reduceMul, Nat.reduceLT, Nat.reduceLeDiff, Nat.reduceEqDiff, Nat.reduceBEq, Int.reduceToNat, Int.reduceLT, Int.reduceLE, Int.reduceEq, Int.reduceNeg, Try.results6, dcla, dclb, xt1.2, xt1.ltT, xt1.leT, dcfa])
end Go.Proofs.Ythfdmcmjlkinaaa.Cm
