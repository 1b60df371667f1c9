/- Objects there and back: plain; and the laws' alive. -/
import Derived.Test.YthfdmcmjlkinaaaObj3
namespace Go.Proofs.Ythfdmcmjlkinaaa.Cm
open Go.RowKit
set_option linter.unusedVariables false
set_option linter.unusedSimpArgs false
set_option maxRecDepth 20000
set_option maxHeartbeats 8000000
theorem digits2 (u : Int) : digits 2 u = [digit u 1, digit u 0] := rfl
theorem decGo_len : ∀ (f : Nat) (r : List Int) (acc : List Ob), acc.length ≤ 32 → (decGo f r acc).1.length ≤ 32
  | 0, _, _, _ => by simp [decGo]
  | f + 1, [], acc, h => by simpa [decGo] using h
  | f + 1, [a], acc, h => by simp only [decGo]; split <;> simp
  | f + 1, [a, b], acc, h => by simp only [decGo]; split <;> simp
  | f + 1, [a, b, c], acc, h => by simp only [decGo]; split <;> simp
  | f + 1, a :: b :: c :: d :: r, acc, h => by
    simp only [decGo]
    split
    · simp
    · split
      · simp
      · split
        · simp
        · exact decGo_len f _ _ (by simp; omega)
theorem decO_len (b : List Int) : (decO b).1.length ≤ 32 := by
  unfold decO
  split
  · simp
  · exact decGo_len _ _ _ (by simp)
theorem dec_enc : ∀ (l : List Ob) (f : Nat) (acc : List Ob), (∀ x ∈ l, mayO x) → acc.length + l.length ≤ 32 → (obsB l).length ≤ f → decGo (f + 1) (obsB l) acc = (acc ++ l, 0)
  | [], f, acc, _, _, _ => by simp [obsB, decGo]
  | x :: l, f, acc, hm, hl, hf => by
    have hx := hm x List.mem_cons_self
    have e : obsB (x :: l) = digit ((x.f2.length : Int) + 4) 1 :: digit ((x.f2.length : Int) + 4) 0 :: x.f0 :: x.f1 :: (x.f2 ++ obsB l) := by
      simp [obsB, obB, digits2]
    have hN : num [digit ((x.f2.length : Int) + 4) 1, digit ((x.f2.length : Int) + 4) 0] = (x.f2.length : Int) + 4 := by
      rw [← digits2]; exact num_digits (by omega) (by have := hx.2.2.1; omega)
    have h4 : ((x.f2.length : Int) + 4) % 4 = 0 := by have := hx.2.2.2; omega
    simp only [List.length_cons] at hl
    rw [e] at hf ⊢
    simp only [List.length_cons, List.length_append] at hf
    have hbad : ¬ ((x.f2.length : Int) + 4 < 4 ∨ ((x.f2.length : Int) + 4) % 4 ≠ 0) := by omega
    have hsh : ¬ (((x.f2 ++ obsB l).length : Int) < (x.f2.length : Int) + 4 - 4) := by simp; omega
    have ht : ((x.f2.length : Int) + 4 - 4).toNat = x.f2.length := by omega
    rw [decGo, if_neg (by omega), hN, if_neg hbad, if_neg hsh, ht, List.drop_left, List.take_left]
    obtain ⟨g, rfl⟩ : ∃ g, f = g + 1 := ⟨f - 1, by omega⟩
    rw [dec_enc l g _ (fun y hy => hm y (List.mem_cons_of_mem _ hy)) (by simp; omega) (by omega)]
    simp
theorem enc_dec : ∀ (f : Nat) (b : List Int) (acc m : List Ob), Octs b → b.length ≤ 4096 → acc.length ≤ 32 → decGo (f + 1) b acc = (m, 0) → b.length ≤ f → ∃ m', m = acc ++ m' ∧ obsB m' = b ∧ (∀ x ∈ m', mayO x) ∧ m.length ≤ 32
  | f, [], acc, m, _, _, ha, h, _ => by simp [decGo] at h; subst h; exact ⟨[], by simp, rfl, by simp, ha⟩
  | f, [a], acc, m, _, _, _, h, _ => by simp only [decGo] at h; split at h <;> simp at h
  | f, [a, b], acc, m, _, _, _, h, _ => by simp only [decGo] at h; split at h <;> simp at h
  | f, [a, b, c], acc, m, _, _, _, h, _ => by simp only [decGo] at h; split at h <;> simp at h
  | 0, a :: b :: c :: d :: r, acc, m, _, _, _, _, hf => by simp at hf
  | f + 1, a0 :: a1 :: a2 :: a3 :: r, acc, m, ho, hb, ha, h, hf => by
    simp only [decGo] at h
    split at h
    · simp at h
    · rename_i h32
      split at h
      · simp at h
      · rename_i hbad
        split at h
        · simp at h
        · rename_i hsh
          have ho0 := ho a0 (by simp)
          have ho1 := ho a1 (by simp)
          have ho2 := ho a2 (by simp)
          have ho3 := ho a3 (by simp)
          have hor : Octs r := fun x hx => ho x (by simp [hx])
          obtain ⟨j, hj⟩ : ∃ j : Nat, num [a0, a1] = (j : Int) + 4 := ⟨(num [a0, a1] - 4).toNat, by omega⟩
          have ht : ((j : Int) + 4 - 4).toNat = j := by omega
          rw [hj, ht] at h
          simp only [List.length_cons] at hb hf
          have hjr : j ≤ r.length := by omega
          obtain ⟨m', h1, h2, h3, h4⟩ := enc_dec f (r.drop j) _ m (hor.drop j) (by simp; omega) (by simp; omega) h (by simp; omega)
          have htl : (r.take j).length = j := by simp; omega
          refine ⟨⟨a2, a3, r.take j⟩ :: m', by simp [h1], ?_, ?_, h4⟩
          · have hd : digits 2 ((j : Int) + 4) = [a0, a1] := by
              rw [← hj]; exact digits_num (l := [a0, a1]) (by intro x hx; simp at hx; rcases hx with h | h <;> subst h <;> assumption)
            simp only [obsB, List.flatMap_cons] at h2 ⊢
            rw [h2]
            simp only [obB, htl, hd]
            simp
          · intro x hx
            rcases List.mem_cons.1 hx with rfl | hx
            · refine ⟨⟨ho2.1, by show a2 ≤ 255; omega⟩, ⟨ho3.1, by show a3 ≤ 255; omega⟩, by simp; omega, ?_⟩
              simp only [htl]; omega
            · exact h3 x hx
theorem encO_ok {l : List Ob} (h : (encO l).2 = 0) : encO l = (obsB l, 0) ∧ (∀ x ∈ l, mayO x) ∧ l.length ≤ 32 ∧ (obsB l).length ≤ 4096 := by
  revert h; unfold encO
  split
  · simp
  · split
    · split
      · simp
      · intro _; rename_i h1 h2 h3; exact ⟨rfl, by assumption, by omega, by omega⟩
    · simp
theorem encO_of {l : List Ob} (h1 : ∀ x ∈ l, mayO x) (h2 : l.length ≤ 32) (h3 : (obsB l).length ≤ 4096) : encO l = (obsB l, 0) := by
  rw [encO, if_neg (by omega), if_pos h1, if_neg (by omega)]
theorem back_enc {l : List Ob} (h : (encO l).2 = 0) : decO (encO l).1 = (l, 0) := by
  obtain ⟨h1, h2, h3, h4⟩ := encO_ok h
  rw [h1, decO, if_neg (by simp; omega), dec_enc l _ [] h2 (by simpa using h3) (Nat.le_refl _)]; rfl
theorem back_dec {b : List Int} (ho : Octs b) (h : (decO b).2 = 0) : encO (decO b).1 = (b, 0) := by
  have h0 : decO b = ((decO b).1, 0) := by rw [← h]
  generalize (decO b).1 = m at h0 ⊢
  unfold decO at h0
  split at h0
  · simp at h0
  · obtain ⟨m', e1, e2, e3, e4⟩ := enc_dec b.length b [] m ho (by omega) (by simp) h0 (Nat.le_refl _)
    have e5 : m = m' := by rw [e1, List.nil_append]
    rw [e5] at e4 ⊢
    rw [encO_of e3 e4 (by rw [e2]; omega), e2]
theorem obsB_append (a b : List Ob) : obsB (a ++ b) = obsB a ++ obsB b := by simp [obsB]
theorem octs_obsB {l : List Ob} (h : ∀ x ∈ l, mayO x) (h2 : ∀ x ∈ l, Octs x.f2) : Octs (obsB l) := by
  intro d hd
  obtain ⟨x, hx, hd⟩ := List.mem_flatMap.1 hd
  have hm := h x hx
  rw [obB] at hd
  rcases List.mem_append.1 hd with hd | hd
  · rcases List.mem_append.1 hd with hd | hd
    · exact digits_octs _ _ d hd
    · simp at hd; rcases hd with rfl | rfl
      · exact ⟨hm.1.1, by have := hm.1.2; omega⟩
      · exact ⟨hm.2.1.1, by have := hm.2.1.2; omega⟩
  · exact h2 x hx d hd
theorem alive_ok (σ : Heap) : ACalls Try.prog 7 [] σ (fun y σ' => y = .sc (.bool true) ∧ Ext [] σ σ') := by
  refine ACalls.code hT Try.func7 rfl ?_
  simp only [Try.ntmps7, List.length_cons, List.length_nil, Nat.reduceSub, Nat.reduceAdd, List.replicate, List.cons_append, List.nil_append]
  repeat (first | (with_reducible refine AW.seq ?_) | (with_reducible refine AW.block ?_) | (with_reducible refine AW.skip ?_) | (with_reducible refine AW.ret ?_) | (with_reducible refine AW.exit ?_) | (with_reducible refine AW.reg hT ?_) | ((with_reducible refine AW.cond_true ?_ ?_); · rfl) | ((with_reducible refine AW.cond_false ?_ ?_); · rfl) | simp (maxDischargeDepth := 12) only [push_cast, appendX, reduceIte, reduceCtorEq, Nat.reduceSub, Nat.reduceAdd, Nat.reduceMul, Nat.reduceLT, Nat.reduceLeDiff, Nat.reduceEqDiff, Nat.reduceBEq, Int.reduceToNat, Int.reduceLT, Int.reduceLE, Int.reduceEq, Int.reduceNeg, Try.results7])
  have e1 : encO [⟨1, 7, [97, 98, 99, 100]⟩, ⟨8, 1, []⟩] = ([0, 8, 1, 7, 97, 98, 99, 100, 0, 4, 8, 1], 0) := by decide
  have e2 : decO [0, 5, 1, 1, 0] = ([], 5) := by simp [decO, decGo, num]
  refine AOpsL.call (first := []) (cap := []) hT rfl rfl rfl fn9 rfl (ACalls.mono (ACalls.holdArg (j := 0) (R := fun x σ'' => x = .tup [.imm (bytesD [0, 8, 1, 7, 97, 98, 99, 100, 0, 4, 8, 1]), .sc (.int .i64 0)] ∧ Ext [] σ σ'') (els := [[.sc (.int .i64 1), .sc (.int .i64 7), .imm [[.sc (.int .u8 97)], [.sc (.int .u8 98)], [.sc (.int .u8 99)], [.sc (.int .u8 100)]]], [.sc (.int .i64 8), .sc (.int .i64 1), .sc (.slice none 0 0)]]) (e := 44) (Hold.row (by simp (maxDischargeDepth := 12) only [push_cast, appendX, Nat.reduceAdd, Nat.reduceEqDiff, Nat.reduceLT, Nat.reduceLeDiff, reduceIte, reduceCtorEq])) rfl (fun σ1 hx1 => ACalls.told (args' := [.imm ([(⟨1, 7, [97, 98, 99, 100]⟩ : Ob), ⟨8, 1, []⟩].map eO)]) ⟨Tells.imm ⟨⟨Tells.refl _, Tells.refl _, Tells.refl _, trivial⟩, ⟨Tells.refl _, Tells.refl _, Tells.nil, trivial⟩, trivial⟩, trivial⟩ ((encode_ok σ1 _ (by decide)).mono (fun x σ2 hh => ⟨by rw [hh.1, e1], ?aE⟩)))) ?_)
  case aE =>
    have h0 : Ext [] σ ((σ.push ⟨[[.sc (.int .u8 97)], [.sc (.int .u8 98)], [.sc (.int .u8 99)], [.sc (.int .u8 100)]], 5, true⟩).set σ.n ⟨[[.sc (.int .u8 97)], [.sc (.int .u8 98)], [.sc (.int .u8 99)], [.sc (.int .u8 100)]], 5, false⟩) := ((Ext.refl _ _).push _).set (.inl (Nat.le_refl _)) _
    exact ((h0.push _).then hx1 (by simp [tOf])).trans hh.2
  rintro y σ1 ⟨rfl, xt1⟩
  repeat (first | (with_reducible refine AW.seq ?_) | (with_reducible refine AW.block ?_) | (with_reducible refine AW.skip ?_) | (with_reducible refine AW.ret ?_) | (with_reducible refine AW.exit ?_) | (with_reducible refine AW.reg hT ?_) | ((with_reducible refine AW.cond_true ?_ ?_); · rfl) | ((with_reducible refine AW.cond_false ?_ ?_); · rfl) | simp (maxDischargeDepth := 12) only [push_cast, appendX, reduceIte, reduceCtorEq, Nat.reduceSub, Nat.reduceAdd, Nat.reduceMul, Nat.reduceLT, Nat.reduceLeDiff, Nat.reduceEqDiff, Nat.reduceBEq, Int.reduceToNat, Int.reduceLT, Int.reduceLE, Int.reduceEq, Int.reduceNeg, Try.results7, xt1.2, xt1.ltT, xt1.leT])
  refine AOpsL.call (first := []) (cap := []) hT rfl rfl rfl fn13 rfl (ACalls.mono (ACalls.holdArg (j := 0) (R := fun x σ'' => x = .tup [.imm [], .sc (.int .i64 5)] ∧ Ext [] σ σ'') (els := bytesD [0, 5, 1, 1, 0]) (e := 5) (Hold.row (by simp (maxDischargeDepth := 12) only [push_cast, appendX, Nat.reduceAdd, Nat.reduceEqDiff, Nat.reduceLT, Nat.reduceLeDiff, reduceIte, reduceCtorEq, bytesD, List.map_cons, List.map_nil, xt1.2, xt1.ltT, xt1.leT])) rfl (fun σ2 hx2 => (decode_ok σ2 [0, 5, 1, 1, 0] (by intro x hx; simp at hx; omega) (by decide)).mono (fun x σ3 hh => ⟨by rw [hh.1, e2]; rfl, ?bE⟩))) ?_)
  case bE => exact ((xt1.push _).then hx2 (by simp [tOf]; have := xt1.1; omega)).trans hh.2
  rintro y σ3 ⟨rfl, xt3⟩
  have dcstr : ((strOfNums [0, 8, 1, 7, 97, 98, 99, 100, 0, 4, 8, 1]).toList == ByteArray.toList { data := #[0, 8, 1, 7, 97, 98, 99, 100, 0, 4, 8, 1] }) = true := by
    rw [ByteArray.toList_eq, ByteArray.toList_eq]; decide
  repeat (first | (with_reducible refine AW.seq ?_) | (with_reducible refine AW.block ?_) | (with_reducible refine AW.skip ?_) | (with_reducible refine AW.ret ?_) | (with_reducible refine AW.exit ?_) | (with_reducible refine AW.reg hT ?_) | ((with_reducible refine AW.cond_true ?_ ?_); · rfl) | ((with_reducible refine AW.cond_false ?_ ?_); · rfl) | simp (maxDischargeDepth := 12) only [push_cast, appendX, reduceIte, reduceCtorEq, Nat.reduceSub, Nat.reduceAdd, Nat.reduceMul, Nat.reduceLT, Nat.reduceLeDiff, Nat.reduceEqDiff, Nat.reduceBEq, Int.reduceToNat, Int.reduceLT, Int.reduceLE, Int.reduceEq, Int.reduceNeg, Try.results7, xt1.2, xt1.ltT, xt1.leT, xt3.2, xt3.ltT, xt3.leT, dcstr])
  exact xt3
theorem octs_wf {b : List Int} (h : ∀ y ∈ b, (Lit.int .u8 y).wf = true) : Octs b := fun d hd => by
  have := h d hd
  have h2 := wf_u8 this
  omega
end Go.Proofs.Ythfdmcmjlkinaaa.Cm
