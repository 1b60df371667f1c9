/- What bytes say as adverts: the plain law of TedbBytes and TedbBack. Package tedb's one: an advert is taken. -/
import Derived.Test.YtkcccomdamdocaaTedb7
import Derived.Test.YtkcccomdamdocaaTedb3
import Derived.Test.YtkcccomdamdocaaCOct2
import Derived.Test.YtkcccomdamdocaaTedb9
namespace Go.Proofs.Ytkcccomdamdocaa.Cm
open Go.RowKit
set_option linter.unusedVariables false
set_option linter.unusedSimpArgs false
set_option maxRecDepth 20000
set_option maxHeartbeats 8000000
theorem wfi64 {n : Int} (h : -9223372036854775808 ≤ n ∧ n ≤ 9223372036854775807) : (Lit.int .i64 n).wf = true := by
  have h1 : IntKind.i64.min = -9223372036854775808 := by decide
  have h2 : IntKind.i64.max = 9223372036854775807 := by decide
  simp only [Lit.wf, Bool.and_eq_true, decide_eq_true_eq, h1, h2]; exact h
theorem wfu64 {n : Int} (h : 0 ≤ n ∧ n ≤ 18446744073709551615) : (Lit.int .u64 n).wf = true := by
  have h1 : IntKind.u64.min = 0 := by decide
  have h2 : IntKind.u64.max = 18446744073709551615 := by decide
  simp only [Lit.wf, Bool.and_eq_true, decide_eq_true_eq, h1, h2]; exact h
theorem wfu32 {n : Int} (h : 0 ≤ n ∧ n ≤ 4294967295) : (Lit.int .u32 n).wf = true := by
  have h1 : IntKind.u32.min = 0 := by decide
  have h2 : IntKind.u32.max = 4294967295 := by decide
  simp only [Lit.wf, Bool.and_eq_true, decide_eq_true_eq, h1, h2]; exact h
def wd : Nat → Nat
  | 0 => 1
  | 1 => 1
  | 2 => 1
  | 3 => 1
  | 4 => 4
  | 5 => 8
  | 6 => 4
  | 7 => 4
  | _ => 8
def bnd : Nat → Nat
  | 0 => 0
  | j + 1 => bnd j + wd j
theorem bnd_le : ∀ j, j ≤ 16 → bnd j ≤ 88 := by decide
theorem bnd_step (j : Nat) : bnd (j + 1) = bnd j + wd j := rfl
theorem wd_le (j : Nat) : 1 ≤ wd j ∧ wd j ≤ 8 := by unfold wd; split <;> omega
/-- What a reader of l has behind j numbers of an advert, and its error. -/
def st (l : List Int) : Nat → List Int × Int
  | 0 => (l, 0)
  | j + 1 => ((tk (st l j).1 (st l j).2 (wd j) true).1, (tk (st l j).1 (st l j).2 (wd j) true).2.1)
def vl (l : List Int) (j : Nat) : Int := num (tk (st l j).1 (st l j).2 (wd j) true).2.2
def frw (v : Nat → Int) : Nat → Fr
  | 0 => ⟨0, 0, 0, 0, 0, 0, 0, 0⟩
  | 1 => ⟨v 8, 0, 0, 0, 0, 0, 0, 0⟩
  | 2 => ⟨v 8, v 9, 0, 0, 0, 0, 0, 0⟩
  | 3 => ⟨v 8, v 9, v 10, 0, 0, 0, 0, 0⟩
  | 4 => ⟨v 8, v 9, v 10, v 11, 0, 0, 0, 0⟩
  | 5 => ⟨v 8, v 9, v 10, v 11, v 12, 0, 0, 0⟩
  | 6 => ⟨v 8, v 9, v 10, v 11, v 12, v 13, 0, 0⟩
  | 7 => ⟨v 8, v 9, v 10, v 11, v 12, v 13, v 14, 0⟩
  | _ => ⟨v 8, v 9, v 10, v 11, v 12, v 13, v 14, v 15⟩
def rdA (l : List Int) (k : Nat) : Ad := ⟨⟨vl l 0, vl l 1, vl l 5, vl l 6, vl l 7⟩, vl l 4, vl l 2 == 1, frw (vl l) k⟩
def okR (l : List Int) : Prop := vl l 2 ≤ 1 ∧ vl l 3 = 0 ∧ (st l 16).2 = 0 ∧ mayA (rdA l 8)
instance (l : List Int) : Decidable (okR l) := by unfold okR; infer_instance
theorem tk_good {l : List Int} {n : Nat} (h : n ≤ l.length) : tk l 0 n true = (l.drop n, 0, l.take n) := by
  unfold tk
  rw [if_neg (by simp), if_neg (by simp), if_neg (by omega)]
  simp
theorem st_good {l : List Int} : ∀ j, bnd j ≤ l.length → st l j = (l.drop (bnd j), 0)
  | 0, h => by simp [st, bnd]
  | j + 1, h => by
    have e := bnd_step j
    have ih := st_good (l := l) j (by omega)
    simp only [st, ih]
    rw [tk_good (by rw [List.length_drop]; omega)]
    simp [e, List.drop_drop]
theorem vl_good {l : List Int} (j : Nat) (h : bnd (j + 1) ≤ l.length) : vl l j = num ((l.drop (bnd j)).take (wd j)) := by
  have e := bnd_step j
  unfold vl
  rw [st_good j (by omega), tk_good (by rw [List.length_drop]; omega)]
theorem st_bad {l : List Int} : ∀ j, (st l j).2 ≠ 0 ∨ ((st l j).2 = 0 ∧ (st l j).1.length + bnd j = l.length)
  | 0 => .inr ⟨rfl, by simp [st, bnd]⟩
  | j + 1 => by
    have e := bnd_step j
    rcases st_bad (l := l) j with h | ⟨h1, h2⟩
    · left
      simp only [st, tk, if_pos h]
      exact h
    · simp only [st, tk, h1]
      rw [if_neg (by simp), if_neg (by simp)]
      split
      · left; simp
      · right
        refine ⟨rfl, ?_⟩
        simp only [List.length_drop]
        have : ((wd j : Int)).toNat = wd j := by simp
        omega
theorem st_all {l : List Int} (h : (st l 16).2 = 0) : 88 ≤ l.length := by
  rcases st_bad (l := l) 16 with h1 | ⟨_, h2⟩
  · exact absurd h h1
  · have : bnd 16 = 88 := by decide
    omega
theorem st_octs {l : List Int} (h : Octs l) : ∀ j, Octs (st l j).1
  | 0 => h
  | j + 1 => (tk_octs (st_octs h j) _ _ _).1
theorem vl_bound {l : List Int} (h : Octs l) (j : Nat) : 0 ≤ vl l j ∧ vl l j < 256 ^ wd j := by
  have h1 := (tk_octs (st_octs h j) (st l j).2 (wd j) true).2
  have h2 := num_bound h1
  refine ⟨h2.1, ?_⟩
  rcases tk_len (st l j).1 (st l j).2 (wd j) true (by intro _; omega) with h3 | ⟨_, h3⟩
  · unfold vl
    rw [List.length_eq_zero_iff.1 h3]
    exact pow_pos256 _
  · have h4 : (tk (st l j).1 (st l j).2 (wd j) true).2.2.length = wd j := by omega
    have h5 := h2.2
    rw [h4] at h5
    exact h5
/-- The numbers of an advert. -/
def val (a : Ad) : Nat → Int
  | 0 => a.f0.f0
  | 1 => a.f0.f1
  | 2 => upA a
  | 3 => 0
  | 4 => a.f1
  | 5 => a.f0.f2
  | 6 => a.f0.f3
  | 7 => a.f0.f4
  | j + 8 => nth a (j + 1)
theorem bytA_val (a : Ad) : bytA a = (List.range 16).flatMap (fun j => digits (wd j) (val a j)) := by
  simp [bytA, digsB, nums, numsB, List.range_succ, val, wd, nth]
theorem pieces_len (f : Nat → List Int) (hf : ∀ j, (f j).length = wd j) : ∀ k, ((List.range k).flatMap f).length = bnd k
  | 0 => by simp [bnd]
  | k + 1 => by simp [List.range_succ, pieces_len f hf k, hf, bnd_step]
theorem pieces_get (f : Nat → List Int) (hf : ∀ j, (f j).length = wd j) (r : List Int) : ∀ k j, j < k → ((((List.range k).flatMap f) ++ r).drop (bnd j)).take (wd j) = f j
  | 0, j, h => by omega
  | k + 1, j, h => by
    have hl := pieces_len f hf k
    rw [List.range_succ, List.flatMap_append, List.append_assoc]
    by_cases hj : j < k
    · exact pieces_get f hf _ k j hj
    · have : j = k := by omega
      subst this
      rw [← hl, List.drop_left]
      simp only [List.flatMap_cons, List.flatMap_nil, List.append_nil]
      rw [← hf j, List.take_left]
theorem pieces_of (l : List Int) : ∀ k, bnd k ≤ l.length → (List.range k).flatMap (fun j => (l.drop (bnd j)).take (wd j)) = l.take (bnd k)
  | 0, _ => by simp [bnd]
  | k + 1, h => by
    have e := bnd_step k
    rw [List.range_succ, List.flatMap_append, pieces_of l k (by omega), e, List.take_add]
    simp
theorem bytA_length (a : Ad) : (bytA a).length = 88 := by
  rw [bytA_val, pieces_len _ (fun j => digits_length _ _)]; decide
theorem bytsA_length : ∀ l : List Ad, (bytsA l).length = 88 * l.length
  | [] => rfl
  | a :: l => by
    have := bytsA_length l
    simp only [bytsA, List.flatMap_cons, List.length_append, List.length_cons, bytA_length] at this ⊢
    omega
theorem val_rdA {l : List Int} (h2 : vl l 2 ≤ 1) (h20 : 0 ≤ vl l 2) (h3 : vl l 3 = 0) : ∀ j, j < 16 → val (rdA l 8) j = vl l j := by
  intro j hj
  have hc : j = 0 ∨ j = 1 ∨ j = 2 ∨ j = 3 ∨ j = 4 ∨ j = 5 ∨ j = 6 ∨ j = 7 ∨ j = 8 ∨ j = 9 ∨ j = 10 ∨ j = 11 ∨ j = 12 ∨ j = 13 ∨ j = 14 ∨ j = 15 := by omega
  rcases hc with rfl | rfl | rfl | rfl | rfl | rfl | rfl | rfl | rfl | rfl | rfl | rfl | rfl | rfl | rfl | rfl
  case inr.inr.inl =>
    simp only [val, upA, rdA, beq_iff_eq]
    split <;> omega
  case inr.inr.inr.inl => exact h3.symm
  all_goals rfl
/-- What was read is its bytes. -/
theorem bytA_rdA {l : List Int} (ho : Octs l) (hl : 88 ≤ l.length) (h2 : vl l 2 ≤ 1) (h3 : vl l 3 = 0) : bytA (rdA l 8) = l.take 88 := by
  rw [bytA_val, show (88 : Nat) = bnd 16 from by decide, ← pieces_of l 16 (by rw [show bnd 16 = 88 from by decide]; exact hl)]
  rw [List.flatMap_def, List.flatMap_def]
  congr 1
  apply List.map_congr_left
  intro j hj
  have hj := List.mem_range.1 hj
  rw [val_rdA h2 (vl_bound ho 2).1 h3 j hj, vl_good j (Nat.le_trans (bnd_le _ (by omega)) hl)]
  have hle : wd j ≤ (l.drop (bnd j)).length := by
    have := bnd_le (j + 1) (by omega)
    have := bnd_step j
    rw [List.length_drop]; omega
  have := digits_num ((ho.drop (bnd j)).take (wd j))
  rw [List.length_take, Nat.min_eq_left hle] at this
  exact this
/-- Bytes of an advert are read as its numbers. -/
theorem vl_bytA (a : Ad) (r : List Int) (j : Nat) (hj : j < 16) (h0 : 0 ≤ val a j) (h1 : val a j < 256 ^ wd j) : vl (bytA a ++ r) j = val a j := by
  rw [vl_good j (by rw [List.length_append, bytA_length]; have := bnd_le (j + 1) (by omega); omega), bytA_val, pieces_get _ (fun j => digits_length _ _) r 16 j hj]
  exact num_digits h0 h1
theorem val_bound {a : Ad} (hw : wA a) (hm : mayA a) (j : Nat) (hj : j < 16) : 0 ≤ val a j ∧ val a j < 256 ^ wd j := by
  obtain ⟨⟨g1, g2, g3, g4, g5, g6, g7⟩, m2, m3, _⟩ := hm
  have hw8 := nth_wf a hw
  obtain ⟨⟨_, _, w3, _, w5⟩, _⟩ := hw
  replace w3 := wf_u64 w3
  replace w5 := wf_u32 w5
  have hc : j = 0 ∨ j = 1 ∨ j = 2 ∨ j = 3 ∨ j = 4 ∨ j = 5 ∨ j = 6 ∨ j = 7 ∨ 8 ≤ j := by omega
  rcases hc with rfl | rfl | rfl | rfl | rfl | rfl | rfl | rfl | h
  · simp only [val, wd]; omega
  · simp only [val, wd]; omega
  · simp only [val, wd, upA]; split <;> omega
  · simp only [val, wd]; omega
  · simp only [val, wd]; omega
  · simp only [val, wd]; omega
  · simp only [val, wd]; omega
  · simp only [val, wd]; omega
  · obtain ⟨k, rfl⟩ : ∃ k, j = k + 8 := ⟨j - 8, by omega⟩
    have e : wd (k + 8) = 8 := rfl
    rw [e]
    simpa [val] using hw8 (k + 1)
theorem frv8 (w : List Int) : frw (vl w) 8 = ⟨vl w 8, vl w 9, vl w 10, vl w 11, vl w 12, vl w 13, vl w 14, vl w 15⟩ := rfl
theorem val0 (a : Ad) : val a 0 = a.f0.f0 := rfl
theorem val1 (a : Ad) : val a 1 = a.f0.f1 := rfl
theorem val2 (a : Ad) : val a 2 = upA a := rfl
theorem val4 (a : Ad) : val a 4 = a.f1 := rfl
theorem val5 (a : Ad) : val a 5 = a.f0.f2 := rfl
theorem val6 (a : Ad) : val a 6 = a.f0.f3 := rfl
theorem val7 (a : Ad) : val a 7 = a.f0.f4 := rfl
theorem val8 (a : Ad) : val a 8 = a.f3.f0 := rfl
theorem val9 (a : Ad) : val a 9 = a.f3.f1 := rfl
theorem val10 (a : Ad) : val a 10 = a.f3.f2 := rfl
theorem val11 (a : Ad) : val a 11 = a.f3.f3 := rfl
theorem val12 (a : Ad) : val a 12 = a.f3.f4 := rfl
theorem val13 (a : Ad) : val a 13 = a.f3.f5 := rfl
theorem val14 (a : Ad) : val a 14 = a.f3.f6 := rfl
theorem val15 (a : Ad) : val a 15 = a.f3.f7 := rfl
theorem up_beq (a : Ad) : (upA a == 1) = a.f2 := by unfold upA; cases a.f2 <;> rfl
theorem rdA_val {a : Ad} {w : List Int} (hv : ∀ j, j < 16 → vl w j = val a j) : rdA w 8 = a := by
  have h0 := (hv 0 (by decide)).trans (val0 a)
  have h1 := (hv 1 (by decide)).trans (val1 a)
  have h2 := (hv 2 (by decide)).trans (val2 a)
  have h4 := (hv 4 (by decide)).trans (val4 a)
  have h5 := (hv 5 (by decide)).trans (val5 a)
  have h6 := (hv 6 (by decide)).trans (val6 a)
  have h7 := (hv 7 (by decide)).trans (val7 a)
  have h8 := (hv 8 (by decide)).trans (val8 a)
  have h9 := (hv 9 (by decide)).trans (val9 a)
  have h10 := (hv 10 (by decide)).trans (val10 a)
  have h11 := (hv 11 (by decide)).trans (val11 a)
  have h12 := (hv 12 (by decide)).trans (val12 a)
  have h13 := (hv 13 (by decide)).trans (val13 a)
  have h14 := (hv 14 (by decide)).trans (val14 a)
  have h15 := (hv 15 (by decide)).trans (val15 a)
  unfold rdA
  rw [frv8, h0, h1, h2, h4, h5, h6, h7, h8, h9, h10, h11, h12, h13, h14, h15, up_beq]
theorem rdA_bytA {a : Ad} (hw : wA a) (hm : mayA a) (r : List Int) : rdA (bytA a ++ r) 8 = a ∧ okR (bytA a ++ r) := by
  have hv : ∀ j, j < 16 → vl (bytA a ++ r) j = val a j := fun j hj => vl_bytA a r j hj (val_bound hw hm j hj).1 (val_bound hw hm j hj).2
  have e : rdA (bytA a ++ r) 8 = a := rdA_val hv
  refine ⟨e, ?_, ?_, ?_, ?_⟩
  · rw [hv 2 (by omega)]; simp only [val, upA]; split <;> omega
  · rw [hv 3 (by omega)]; rfl
  · rw [st_good 16 (by rw [List.length_append, bytA_length]; have : bnd 16 = 88 := by decide
                       omega)]
  · rw [e]; exact hm
theorem wA_rdA {l : List Int} (ho : Octs l) : wA (rdA l 8) := by
  have hb := vl_bound ho
  have h0 := hb 0
  have h1 := hb 1
  have h4 := hb 4
  have h5 := hb 5
  have h6 := hb 6
  have h7 := hb 7
  have h8 := hb 8
  have h9 := hb 9
  have h10 := hb 10
  have h11 := hb 11
  have h12 := hb 12
  have h13 := hb 13
  have h14 := hb 14
  have h15 := hb 15
  simp only [wd] at h0 h1 h4 h5 h6 h7 h8 h9 h10 h11 h12 h13 h14 h15
  exact ⟨⟨wfi64 (n := vl l 0) (by omega), wfi64 (n := vl l 1) (by omega), wfu64 (n := vl l 5) (by omega), wfi64 (n := vl l 6) (by omega), wfu32 (n := vl l 7) (by omega)⟩, wfi64 (n := vl l 4) (by omega), trivial, wfu64 (n := vl l 8) (by omega), wfu64 (n := vl l 9) (by omega), wfu64 (n := vl l 10) (by omega), wfu64 (n := vl l 11) (by omega), wfu64 (n := vl l 12) (by omega), wfu64 (n := vl l 13) (by omega), wfu64 (n := vl l 14) (by omega), wfu64 (n := vl l 15) (by omega)⟩
def dcd : Nat → List Int → Option (List Ad)
  | 0, l => if l = [] then some [] else none
  | f + 1, l => if l = [] then some [] else if okR l then (dcd f (st l 16).1).map (rdA l 8 :: ·) else none
theorem okR_st {l : List Int} (h : okR l) : 88 ≤ l.length ∧ (st l 16).1 = l.drop 88 := by
  have h1 := st_all h.2.2.1
  refine ⟨h1, ?_⟩
  rw [st_good 16 (by rw [show bnd 16 = 88 from by decide]; exact h1)]
  rw [show bnd 16 = 88 from by decide]
theorem dcd_some : ∀ (f : Nat) (l : List Int) (o : List Ad), Octs l → dcd f l = some o → o.length ≤ f ∧ (∀ a ∈ o, mayA a) ∧ bytsA o = l ∧ o = (List.range o.length).map (fun i => rdA (l.drop (88 * i)) 8)
  | 0, l, o, ho, h => by
    unfold dcd at h
    split at h
    · cases h
      exact ⟨by simp, by simp, by simp [bytsA, *], by simp⟩
    · cases h
  | f + 1, l, o, ho, h => by
    unfold dcd at h
    split at h
    · cases h
      exact ⟨by simp, by simp, by simp [bytsA, *], by simp⟩
    · split at h
      · rename_i hk
        obtain ⟨h1, h2⟩ := okR_st hk
        rw [h2] at h
        cases hd : dcd f (l.drop 88) with
        | none => rw [hd] at h; cases h
        | some r =>
          rw [hd] at h
          cases h
          obtain ⟨i1, i2, i3, i4⟩ := dcd_some f (l.drop 88) r (ho.drop 88) hd
          refine ⟨by simp; omega, ?_, ?_, ?_⟩
          · intro a ha
            rcases List.mem_cons.1 ha with rfl | ha
            · exact hk.2.2.2
            · exact i2 a ha
          · simp only [bytsA, List.flatMap_cons] at i3 ⊢
            rw [i3, bytA_rdA ho h1 hk.1 hk.2.1, List.take_append_drop]
          · simp only [List.length_cons]
            rw [List.range_succ_eq_map, List.map_cons, List.map_map]
            congr 1
            rw [i4]
            rw [List.length_map, List.length_range]
            apply List.map_congr_left
            intro i hi
            simp only [Function.comp, List.drop_drop]
            congr 2
            omega
      · cases h
theorem dcd_of : ∀ (o : List Ad) (f : Nat), (∀ a ∈ o, mayA a ∧ wA a) → o.length ≤ f → dcd f (bytsA o) = some o
  | [], f, _, _ => by cases f <;> simp [dcd, bytsA]
  | a :: o, 0, _, h => by simp at h
  | a :: o, f + 1, ha, h => by
    obtain ⟨h1, h2⟩ := ha a (by simp)
    obtain ⟨e1, e2⟩ := rdA_bytA h2 h1 (bytsA o)
    have eb : bytsA (a :: o) = bytA a ++ bytsA o := by simp [bytsA]
    have hne : bytA a ++ bytsA o ≠ [] := by
      intro h
      have := congrArg List.length h
      rw [List.length_append, bytA_length] at this
      simp at this
    rw [eb]
    unfold dcd
    rw [if_neg hne, if_pos e2, (okR_st e2).2, e1]
    rw [show (88 : Nat) = (bytA a).length from (bytA_length a).symm, List.drop_left]
    rw [dcd_of o f (fun x hx => ha x (by simp [hx])) (by simp at h; omega)]
    rfl
def decT (b : List Int) : List Ad × Int := if 5632 < b.length then ([], 5) else match dcd 64 b with
  | some o => (o, 0)
  | none => ([], 5)
def chs (b : List Int) (n : Nat) : List Ad := (List.range n).map (fun i => rdA (b.drop (88 * i)) 8)
theorem decT_ok {b : List Int} (ho : Octs b) (h : (decT b).2 = 0) : encT (decT b).1 = (b, 0) ∧ b.length ≤ 5632 ∧ (decT b).1.length ≤ 64 := by
  unfold decT at h ⊢
  split at h
  · cases h
  · rename_i hb
    rw [if_neg hb]
    cases hd : dcd 64 b with
    | none => rw [hd] at h; cases h
    | some o =>
      obtain ⟨h1, h2, h3, _⟩ := dcd_some 64 b o ho hd
      refine ⟨?_, by omega, h1⟩
      show encT o = (b, 0)
      unfold encT
      rw [if_neg (by omega), if_pos h2, h3]
theorem decT_err {b : List Int} (h : (decT b).2 ≠ 0) : decT b = ([], 5) := by
  unfold decT at h ⊢
  split
  · rfl
  · rename_i hb
    rw [if_neg hb] at h
    cases hd : dcd 64 b with
    | none => rfl
    | some o => rw [hd] at h; exact absurd rfl h
theorem encT_ok {l : List Ad} (h : (encT l).2 = 0) : l.length ≤ 64 ∧ (∀ a ∈ l, mayA a) ∧ encT l = (bytsA l, 0) := by
  unfold encT at h ⊢
  split at h
  · cases h
  · rename_i h64
    split at h
    · rename_i hm
      rw [if_neg h64, if_pos hm]
      exact ⟨by omega, hm, rfl⟩
    · cases h
theorem decT_enc {l : List Ad} (hw : ∀ a ∈ l, wA a) (h : (encT l).2 = 0) : decT (encT l).1 = (l, 0) := by
  obtain ⟨h1, h2, h3⟩ := encT_ok h
  have hl := bytsA_length l
  rw [h3]
  unfold decT
  rw [if_neg (by show ¬ 5632 < (bytsA l).length; omega)]
  rw [dcd_of l 64 (fun a ha => ⟨h2 a ha, hw a ha⟩) h1]
/-- The document's answer. -/
def rdecT (b : List Int) : List Ad × Int := if b.length % 88 ≠ 0 ∨ 5632 < b.length then ([], 5) else if encT (chs b (b.length / 88)) = (b, 0) then (chs b (b.length / 88), 0) else ([], 5)
theorem chs_wf {b : List Int} (ho : Octs b) (n : Nat) : ∀ a ∈ chs b n, wA a := by
  intro a ha
  obtain ⟨i, _, rfl⟩ := List.mem_map.1 ha
  exact wA_rdA (ho.drop _)
theorem decT_wf {b : List Int} (ho : Octs b) : ∀ a ∈ (decT b).1, wA a := by
  unfold decT
  split
  · simp
  · split
    · rename_i o hd
      obtain ⟨_, _, _, i4⟩ := dcd_some 64 b o ho hd
      intro a ha
      simp only at ha
      rw [i4] at ha
      exact chs_wf ho _ a ha
    · simp
theorem rdecT_eq {b : List Int} (ho : Octs b) : rdecT b = decT b := by
  by_cases he : (decT b).2 = 0
  · obtain ⟨h1, h2, h3⟩ := decT_ok ho he
    have hb := congrArg Prod.fst h1
    obtain ⟨_, _, h4⟩ := encT_ok (l := (decT b).1) (by rw [h1])
    have hlen := bytsA_length (decT b).1
    rw [h4] at hb
    simp only at hb
    rw [hb] at hlen
    have hch : chs b (decT b).1.length = (decT b).1 := by
      unfold decT at he ⊢
      rw [if_neg (by omega)] at he ⊢
      cases hd : dcd 64 b with
      | none => rw [hd] at he; cases he
      | some o =>
        obtain ⟨_, _, _, i4⟩ := dcd_some 64 b o ho hd
        exact i4.symm
    have hn : b.length / 88 = (decT b).1.length := by omega
    unfold rdecT
    rw [if_neg (by omega), hn, hch, if_pos h1]
    show ((decT b).1, 0) = decT b
    rw [← he]
  · rw [decT_err he]
    unfold rdecT
    split
    · rfl
    · rename_i hb
      rw [if_neg]
      intro h
      have h2 := decT_enc (chs_wf ho (b.length / 88)) (by rw [h])
      rw [h] at h2
      rw [h2] at he
      exact he rfl
theorem wrap_u32 {n : Int} (h0 : 0 ≤ n) (h1 : n < 4294967296) : IntKind.u32.wrap n = n := by
  have : IntKind.u32.wrap n = n % 4294967296 := rfl
  rw [this]; omega
theorem uint_st (σ : Heap) {p : Nat} {l : List Int} (j : Nat) (n : Int) (hn : n = wd j) (gtp : σ.get p = some (ROb (st l j).1 (st l j).2)) (ho : Octs l) :
    ACalls Try.prog 45 [.ptr p 0 0 1, .sc (.int .i64 n)] σ (fun x σ' => x = .sc (.int .u64 (vl l j)) ∧ σ'.get p = some (ROb (st l (j + 1)).1 (st l (j + 1)).2) ∧ Ext [p] σ σ') := by
  have h := uint_ok σ n gtp (st_octs ho j)
  have hw := wd_le j
  have e : decide (1 ≤ n ∧ n ≤ 8) = true := decide_eq_true (by omega)
  rw [e] at h
  subst hn
  exact h
def oA (l : List Int) (k : Nat) : AObj := ⟨[eA (rdA l k)], 40, true⟩
def oZ : AObj := ⟨[eA ⟨⟨0, 0, 0, 0, 0⟩, 0, false, ⟨0, 0, 0, 0, 0, 0, 0, 0⟩⟩], 40, true⟩
def oneI (l : List Int) (p q2 q4 : Nat) (σ0 : Heap) (m : Nat) (ts : List DV) (σ : Heap) : Prop := ∃ (k : Nat) (z : Int), m = 9 - k ∧ k ≤ 8 ∧ z = k ∧ σ.get p = some (ROb (st l (k + 8)).1 (st l (k + 8)).2) ∧ σ.get q4 = some (oA l k) ∧ σ.get q2 = some oZ ∧ Ext [p] σ0 σ ∧ TellsL ts (.ptr p 0 0 1 :: .any :: .ptr q2 0 0 1 :: .sc (.bool false) :: .ptr q4 0 0 1 :: .sc (.int .u64 (vl l 2)) :: .sc (.int .u64 (vl l 3)) :: .any :: .any :: .any :: .any :: .any :: .any :: .any :: .any :: .any :: .any :: .any :: .any :: .any :: .any :: .any :: .any :: .any :: .any :: .any :: .any :: .any :: .any :: .any :: .any :: .any :: .any :: .any :: .any :: .any :: .any :: .any :: .any :: .any :: .any :: .any :: .any :: .sc (.int .i64 z) :: .any :: .any :: .any :: .any :: .any :: .any :: .any :: .any :: .any :: .any :: .any :: .any :: .any :: .any :: .any :: .any :: .any :: .any :: .any :: .any :: .any :: .any :: .any :: .any :: [])
theorem one_ok (σ : Heap) {p : Nat} {l : List Int} (gtp : σ.get p = some (ROb l 0)) (ho : Octs l) : ACalls Try.prog 41 [.ptr p 0 0 1] σ (fun y σ' => y = .tup [.agg (eA (rdA l 8)), .sc (.bool (decide (okR l)))] ∧ σ'.get p = some (ROb (st l 16).1 (st l 16).2) ∧ Ext [p] σ σ') := by
  have hlt := Heap.lt gtp
  have hb := vl_bound ho
  have dcv0 : IntKind.i64.wrap (vl l 0) = vl l 0 := wrap_i64 (by have := hb 0; simp only [wd] at this; omega) (by have := hb 0; simp only [wd] at this; omega)
  have dcv1 : IntKind.i64.wrap (vl l 1) = vl l 1 := wrap_i64 (by have := hb 1; simp only [wd] at this; omega) (by have := hb 1; simp only [wd] at this; omega)
  have dcv4 : IntKind.i64.wrap (vl l 4) = vl l 4 := wrap_i64 (by have := hb 4; simp only [wd] at this; omega) (by have := hb 4; simp only [wd] at this; omega)
  have dcv6 : IntKind.i64.wrap (vl l 6) = vl l 6 := wrap_i64 (by have := hb 6; simp only [wd] at this; omega) (by have := hb 6; simp only [wd] at this; omega)
  have dcv7 : IntKind.u32.wrap (vl l 7) = vl l 7 := wrap_u32 (by have := hb 7; simp only [wd] at this; omega) (by have := hb 7; simp only [wd] at this; omega)
  refine ACalls.code hT Try.func41 rfl ?_
  simp only [Try.ntmps41, List.length_cons, List.length_nil, Nat.reduceSub, Nat.reduceAdd, List.replicate, List.cons_append, List.nil_append]
  repeat (first | (with_reducible refine AW.seq ?_) | (with_reducible refine AW.block ?_) | (with_reducible refine AW.skip ?_) | (with_reducible refine AW.ret ?_) | (with_reducible refine AW.exit ?_) | (with_reducible refine AW.reg hT ?_) | ((with_reducible show AW _ (.region 16 _ _) _ _ _); (with_reducible refine AW.drawn (id := 16) hT [0,1,2,3,4,5,6,7,8,9,10,11,12,13,14,15,16,17] [[],[],[1],[1,2],[1,2,3],[1,2,3,4],[1,2,3,4,5],[1,2,3,4,5,6],[1,2,3,4,5,6,7],[1,2,3,4,5,6,7,8],[1,2,3,4,5,6,7,8,9],[1,2,3,4,5,6,7,8,9,10],[1,2,3,4,5,6,7,8,9,10,11],[1,2,3,4,5,6,7,8,9,10,11,12],[1,2,3,4,5,6,7,8,9,10,11,12,13],[1,2,3,4,5,6,7,8,9,10,11,12,13,14],[0,1,2,3,4,5,6,7,8,9,10,11,12,13,14],[0,1,2,3,4,5,6,7,8,9,10,11,12,13,14,15,16]] mix (by kernel_rfl) ?_)) | ((with_reducible show DLeft _ _ _ _ (_ :: _) _ _ _ _); (with_reducible apply DLeft.step hT); (case hoi => ((simp only [List.getElem?_toArray,List.getElem?_cons_zero,List.getElem?_cons_succ]); with_reducible rfl)); (case hg => rfl); (case hk => rfl); (case hr => ((try simp (maxSteps := 3000000) (maxDischargeDepth := 12) only [push_cast,appendX,reduceIte,reduceCtorEq,Nat.reduceSub,Nat.reduceAdd,Nat.reduceMul,Nat.reduceLT,Nat.reduceLeDiff,Nat.reduceEqDiff,Nat.reduceBEq,Int.reduceToNat,Int.reduceLT,Int.reduceLE,Int.reduceEq,Int.reduceNeg,Try.results41,gtp,Heap.lt gtp,dcv0,dcv1,dcv4,dcv6,dcv7]); with_reducible rfl))) | ((with_reducible refine AW.cond_true ?_ ?_); · rfl) | ((with_reducible refine AW.cond_false ?_ ?_); · rfl) | simp (maxSteps := 3000000) (maxDischargeDepth := 12) only [push_cast,appendX,reduceIte,reduceCtorEq,Nat.reduceSub,Nat.reduceAdd,Nat.reduceMul,Nat.reduceLT,Nat.reduceLeDiff,Nat.reduceEqDiff,Nat.reduceBEq,Int.reduceToNat,Int.reduceLT,Int.reduceLE,Int.reduceEq,Int.reduceNeg,Try.results41,gtp,Heap.lt gtp,dcv0,dcv1,dcv4,dcv6,dcv7])
  refine AOpsL.call (first := []) (cap := []) hT rfl rfl rfl fn45 rfl (ACalls.mono (uint_st (l := l) _ 0 1 rfl (by simp (maxSteps := 3000000) (maxDischargeDepth := 12) only [push_cast, appendX, Nat.reduceAdd, Nat.reduceEqDiff, Nat.reduceLT, Nat.reduceLeDiff, reduceIte, reduceCtorEq, st, gtp, Heap.lt gtp, dcv0, dcv1, dcv4, dcv6, dcv7]) ho) ?_)
  rintro y σ1 ⟨rfl, gt1, xt1⟩
  have gtA : σ1.get (σ.n + 1) = some oZ := by simp (maxSteps := 3000000) (maxDischargeDepth := 12) only [push_cast, appendX, Nat.reduceAdd, Nat.reduceEqDiff, Nat.reduceLT, Nat.reduceLeDiff, reduceIte, reduceCtorEq, eA_eq, oZ, gtp, Heap.lt gtp, dcv0, dcv1, dcv4, dcv6, dcv7, gt1, Heap.lt gt1, xt1.2, xt1.ltT, xt1.leT]
  have gtB : σ1.get σ.n = some oZ := by simp (maxSteps := 3000000) (maxDischargeDepth := 12) only [push_cast, appendX, Nat.reduceAdd, Nat.reduceEqDiff, Nat.reduceLT, Nat.reduceLeDiff, reduceIte, reduceCtorEq, eA_eq, oZ, gtp, Heap.lt gtp, dcv0, dcv1, dcv4, dcv6, dcv7, gt1, Heap.lt gt1, xt1.2, xt1.ltT, xt1.leT, gtA, Heap.lt gtA]
  have xtA : Ext [p] σ σ1 := by repeat (first | exact Ext.refl _ _ | assumption | refine Ext.push ?_ _ | ((refine Ext.set ?_ ?_ _); rotate_left; · (simp (maxSteps := 3000000) (maxDischargeDepth := 12) only [push_cast, appendX, Nat.reduceAdd, Nat.reduceEqDiff, Nat.reduceLT, Nat.reduceLeDiff, reduceIte, reduceCtorEq, gtp, Heap.lt gtp, dcv0, dcv1, dcv4, dcv6, dcv7, gt1, Heap.lt gt1, xt1.2, xt1.ltT, xt1.leT, gtA, Heap.lt gtA, gtB, Heap.lt gtB])) | ((refine Ext.then1 (by assumption) ?_ ?_); rotate_left; · (intro p hp _; first | assumption | exact List.mem_cons_of_mem _ hp | (cases hp; done) | (simp at hp; subst hp; simp))))
  have hnA : σ.n ≤ σ.n + 1 := by omega
  have hnB : σ.n ≤ σ.n := by omega
  have hpA : p ≠ σ.n + 1 := by omega
  have hpB : p ≠ σ.n := by omega
  have hAB : σ.n ≠ σ.n + 1 := by omega
  generalize h4 : σ.n + 1 = q4 at gtA hnA hpA hAB ⊢
  generalize h2 : σ.n = q2 at gtB hnB hpB hAB ⊢
  rw [h2] at hnA
  clear xt1
  simp only [oZ, eA_eq] at gtA gtB
  have dcpA : (p = q4) = False := by simp [hpA]
  have dcAp : (q4 = p) = False := by simp [Ne.symm hpA]
  have dcpB : (p = q2) = False := by simp [hpB]
  have dcBp : (q2 = p) = False := by simp [Ne.symm hpB]
  have dcAB : (q2 = q4) = False := by simp [hAB]
  have dcBA : (q4 = q2) = False := by simp [Ne.symm hAB]
  repeat (first | (with_reducible refine AW.seq ?_) | (with_reducible refine AW.block ?_) | (with_reducible refine AW.skip ?_) | (with_reducible refine AW.ret ?_) | (with_reducible refine AW.exit ?_) | (with_reducible refine AW.reg hT ?_) | ((with_reducible show AW _ (.region 16 _ _) _ _ _); (with_reducible refine AW.drawn (id := 16) hT [0,1,2,3,4,5,6,7,8,9,10,11,12,13,14,15,16,17] [[],[],[1],[1,2],[1,2,3],[1,2,3,4],[1,2,3,4,5],[1,2,3,4,5,6],[1,2,3,4,5,6,7],[1,2,3,4,5,6,7,8],[1,2,3,4,5,6,7,8,9],[1,2,3,4,5,6,7,8,9,10],[1,2,3,4,5,6,7,8,9,10,11],[1,2,3,4,5,6,7,8,9,10,11,12],[1,2,3,4,5,6,7,8,9,10,11,12,13],[1,2,3,4,5,6,7,8,9,10,11,12,13,14],[0,1,2,3,4,5,6,7,8,9,10,11,12,13,14],[0,1,2,3,4,5,6,7,8,9,10,11,12,13,14,15,16]] mix (by kernel_rfl) ?_)) | ((with_reducible show DLeft _ _ _ _ (_ :: _) _ _ _ _); (with_reducible apply DLeft.step hT); (case hoi => ((simp only [List.getElem?_toArray,List.getElem?_cons_zero,List.getElem?_cons_succ]); with_reducible rfl)); (case hg => rfl); (case hk => rfl); (case hr => ((try simp (maxSteps := 3000000) (maxDischargeDepth := 12) only [push_cast,appendX,reduceIte,reduceCtorEq,Nat.reduceSub,Nat.reduceAdd,Nat.reduceMul,Nat.reduceLT,Nat.reduceLeDiff,Nat.reduceEqDiff,Nat.reduceBEq,Int.reduceToNat,Int.reduceLT,Int.reduceLE,Int.reduceEq,Int.reduceNeg,Try.results41,gtp,Heap.lt gtp,dcv0,dcv1,dcv4,dcv6,dcv7,gt1,Heap.lt gt1,gtA,Heap.lt gtA,gtB,Heap.lt gtB,xtA.2,xtA.ltT,xtA.leT,dcpA,dcAp,dcpB,dcBp,dcAB,dcBA]); with_reducible rfl))) | ((with_reducible refine AW.cond_true ?_ ?_); · rfl) | ((with_reducible refine AW.cond_false ?_ ?_); · rfl) | simp (maxSteps := 3000000) (maxDischargeDepth := 12) only [push_cast,appendX,reduceIte,reduceCtorEq,Nat.reduceSub,Nat.reduceAdd,Nat.reduceMul,Nat.reduceLT,Nat.reduceLeDiff,Nat.reduceEqDiff,Nat.reduceBEq,Int.reduceToNat,Int.reduceLT,Int.reduceLE,Int.reduceEq,Int.reduceNeg,Try.results41,gtp,Heap.lt gtp,dcv0,dcv1,dcv4,dcv6,dcv7,gt1,Heap.lt gt1,gtA,Heap.lt gtA,gtB,Heap.lt gtB,xtA.2,xtA.ltT,xtA.leT,dcpA,dcAp,dcpB,dcBp,dcAB,dcBA])
  refine AOpsL.call (first := []) (cap := []) hT rfl rfl rfl fn45 rfl (ACalls.mono (uint_st (l := l) _ 1 1 rfl (by simp (maxSteps := 3000000) (maxDischargeDepth := 12) only [push_cast, appendX, Nat.reduceAdd, Nat.reduceEqDiff, Nat.reduceLT, Nat.reduceLeDiff, reduceIte, reduceCtorEq, dcpA, gtp, Heap.lt gtp, dcv0, dcv1, dcv4, dcv6, dcv7, gt1, Heap.lt gt1, gtA, Heap.lt gtA, gtB, Heap.lt gtB, xtA.2, xtA.ltT, xtA.leT, dcpA, dcAp, dcpB, dcBp, dcAB, dcBA]) ho) ?_)
  rintro y σ2 ⟨rfl, gt2, xt2⟩
  repeat (first | (with_reducible refine AW.seq ?_) | (with_reducible refine AW.block ?_) | (with_reducible refine AW.skip ?_) | (with_reducible refine AW.ret ?_) | (with_reducible refine AW.exit ?_) | (with_reducible refine AW.reg hT ?_) | ((with_reducible show AW _ (.region 16 _ _) _ _ _); (with_reducible refine AW.drawn (id := 16) hT [0,1,2,3,4,5,6,7,8,9,10,11,12,13,14,15,16,17] [[],[],[1],[1,2],[1,2,3],[1,2,3,4],[1,2,3,4,5],[1,2,3,4,5,6],[1,2,3,4,5,6,7],[1,2,3,4,5,6,7,8],[1,2,3,4,5,6,7,8,9],[1,2,3,4,5,6,7,8,9,10],[1,2,3,4,5,6,7,8,9,10,11],[1,2,3,4,5,6,7,8,9,10,11,12],[1,2,3,4,5,6,7,8,9,10,11,12,13],[1,2,3,4,5,6,7,8,9,10,11,12,13,14],[0,1,2,3,4,5,6,7,8,9,10,11,12,13,14],[0,1,2,3,4,5,6,7,8,9,10,11,12,13,14,15,16]] mix (by kernel_rfl) ?_)) | ((with_reducible show DLeft _ _ _ _ (_ :: _) _ _ _ _); (with_reducible apply DLeft.step hT); (case hoi => ((simp only [List.getElem?_toArray,List.getElem?_cons_zero,List.getElem?_cons_succ]); with_reducible rfl)); (case hg => rfl); (case hk => rfl); (case hr => ((try simp (maxSteps := 3000000) (maxDischargeDepth := 12) only [push_cast,appendX,reduceIte,reduceCtorEq,Nat.reduceSub,Nat.reduceAdd,Nat.reduceMul,Nat.reduceLT,Nat.reduceLeDiff,Nat.reduceEqDiff,Nat.reduceBEq,Int.reduceToNat,Int.reduceLT,Int.reduceLE,Int.reduceEq,Int.reduceNeg,Try.results41,gtp,Heap.lt gtp,dcv0,dcv1,dcv4,dcv6,dcv7,gt1,Heap.lt gt1,gtA,Heap.lt gtA,gtB,Heap.lt gtB,xtA.2,xtA.ltT,xtA.leT,dcpA,dcAp,dcpB,dcBp,dcAB,dcBA,gt2,Heap.lt gt2,xt2.2,xt2.ltT,xt2.leT]); with_reducible rfl))) | ((with_reducible refine AW.cond_true ?_ ?_); · rfl) | ((with_reducible refine AW.cond_false ?_ ?_); · rfl) | simp (maxSteps := 3000000) (maxDischargeDepth := 12) only [push_cast,appendX,reduceIte,reduceCtorEq,Nat.reduceSub,Nat.reduceAdd,Nat.reduceMul,Nat.reduceLT,Nat.reduceLeDiff,Nat.reduceEqDiff,Nat.reduceBEq,Int.reduceToNat,Int.reduceLT,Int.reduceLE,Int.reduceEq,Int.reduceNeg,Try.results41,gtp,Heap.lt gtp,dcv0,dcv1,dcv4,dcv6,dcv7,gt1,Heap.lt gt1,gtA,Heap.lt gtA,gtB,Heap.lt gtB,xtA.2,xtA.ltT,xtA.leT,dcpA,dcAp,dcpB,dcBp,dcAB,dcBA,gt2,Heap.lt gt2,xt2.2,xt2.ltT,xt2.leT])
  refine AOpsL.call (first := []) (cap := []) hT rfl rfl rfl fn45 rfl (ACalls.mono (uint_st (l := l) _ 2 1 rfl (by simp (maxSteps := 3000000) (maxDischargeDepth := 12) only [push_cast, appendX, Nat.reduceAdd, Nat.reduceEqDiff, Nat.reduceLT, Nat.reduceLeDiff, reduceIte, reduceCtorEq, dcpA, gtp, Heap.lt gtp, dcv0, dcv1, dcv4, dcv6, dcv7, gt1, Heap.lt gt1, gtA, Heap.lt gtA, gtB, Heap.lt gtB, xtA.2, xtA.ltT, xtA.leT, dcpA, dcAp, dcpB, dcBp, dcAB, dcBA, gt2, Heap.lt gt2, xt2.2, xt2.ltT, xt2.leT]) ho) ?_)
  rintro y σ3 ⟨rfl, gt3, xt3⟩
  repeat (first | (with_reducible refine AW.seq ?_) | (with_reducible refine AW.block ?_) | (with_reducible refine AW.skip ?_) | (with_reducible refine AW.ret ?_) | (with_reducible refine AW.exit ?_) | (with_reducible refine AW.reg hT ?_) | ((with_reducible show AW _ (.region 16 _ _) _ _ _); (with_reducible refine AW.drawn (id := 16) hT [0,1,2,3,4,5,6,7,8,9,10,11,12,13,14,15,16,17] [[],[],[1],[1,2],[1,2,3],[1,2,3,4],[1,2,3,4,5],[1,2,3,4,5,6],[1,2,3,4,5,6,7],[1,2,3,4,5,6,7,8],[1,2,3,4,5,6,7,8,9],[1,2,3,4,5,6,7,8,9,10],[1,2,3,4,5,6,7,8,9,10,11],[1,2,3,4,5,6,7,8,9,10,11,12],[1,2,3,4,5,6,7,8,9,10,11,12,13],[1,2,3,4,5,6,7,8,9,10,11,12,13,14],[0,1,2,3,4,5,6,7,8,9,10,11,12,13,14],[0,1,2,3,4,5,6,7,8,9,10,11,12,13,14,15,16]] mix (by kernel_rfl) ?_)) | ((with_reducible show DLeft _ _ _ _ (_ :: _) _ _ _ _); (with_reducible apply DLeft.step hT); (case hoi => ((simp only [List.getElem?_toArray,List.getElem?_cons_zero,List.getElem?_cons_succ]); with_reducible rfl)); (case hg => rfl); (case hk => rfl); (case hr => ((try simp (maxSteps := 3000000) (maxDischargeDepth := 12) only [push_cast,appendX,reduceIte,reduceCtorEq,Nat.reduceSub,Nat.reduceAdd,Nat.reduceMul,Nat.reduceLT,Nat.reduceLeDiff,Nat.reduceEqDiff,Nat.reduceBEq,Int.reduceToNat,Int.reduceLT,Int.reduceLE,Int.reduceEq,Int.reduceNeg,Try.results41,gtp,Heap.lt gtp,dcv0,dcv1,dcv4,dcv6,dcv7,gt1,Heap.lt gt1,gtA,Heap.lt gtA,gtB,Heap.lt gtB,xtA.2,xtA.ltT,xtA.leT,dcpA,dcAp,dcpB,dcBp,dcAB,dcBA,gt2,Heap.lt gt2,xt2.2,xt2.ltT,xt2.leT,gt3,Heap.lt gt3,xt3.2,xt3.ltT,xt3.leT]); with_reducible rfl))) | ((with_reducible refine AW.cond_true ?_ ?_); · rfl) | ((with_reducible refine AW.cond_false ?_ ?_); · rfl) | simp (maxSteps := 3000000) (maxDischargeDepth := 12) only [push_cast,appendX,reduceIte,reduceCtorEq,Nat.reduceSub,Nat.reduceAdd,Nat.reduceMul,Nat.reduceLT,Nat.reduceLeDiff,Nat.reduceEqDiff,Nat.reduceBEq,Int.reduceToNat,Int.reduceLT,Int.reduceLE,Int.reduceEq,Int.reduceNeg,Try.results41,gtp,Heap.lt gtp,dcv0,dcv1,dcv4,dcv6,dcv7,gt1,Heap.lt gt1,gtA,Heap.lt gtA,gtB,Heap.lt gtB,xtA.2,xtA.ltT,xtA.leT,dcpA,dcAp,dcpB,dcBp,dcAB,dcBA,gt2,Heap.lt gt2,xt2.2,xt2.ltT,xt2.leT,gt3,Heap.lt gt3,xt3.2,xt3.ltT,xt3.leT])
  refine AOpsL.call (first := []) (cap := []) hT rfl rfl rfl fn45 rfl (ACalls.mono (uint_st (l := l) _ 3 1 rfl (by simp (maxSteps := 3000000) (maxDischargeDepth := 12) only [push_cast, appendX, Nat.reduceAdd, Nat.reduceEqDiff, Nat.reduceLT, Nat.reduceLeDiff, reduceIte, reduceCtorEq, dcpA, gtp, Heap.lt gtp, dcv0, dcv1, dcv4, dcv6, dcv7, gt1, Heap.lt gt1, gtA, Heap.lt gtA, gtB, Heap.lt gtB, xtA.2, xtA.ltT, xtA.leT, dcpA, dcAp, dcpB, dcBp, dcAB, dcBA, gt2, Heap.lt gt2, xt2.2, xt2.ltT, xt2.leT, gt3, Heap.lt gt3, xt3.2, xt3.ltT, xt3.leT]) ho) ?_)
  rintro y σ4 ⟨rfl, gt4, xt4⟩
  repeat (first | (with_reducible refine AW.seq ?_) | (with_reducible refine AW.block ?_) | (with_reducible refine AW.skip ?_) | (with_reducible refine AW.ret ?_) | (with_reducible refine AW.exit ?_) | (with_reducible refine AW.reg hT ?_) | ((with_reducible show AW _ (.region 16 _ _) _ _ _); (with_reducible refine AW.drawn (id := 16) hT [0,1,2,3,4,5,6,7,8,9,10,11,12,13,14,15,16,17] [[],[],[1],[1,2],[1,2,3],[1,2,3,4],[1,2,3,4,5],[1,2,3,4,5,6],[1,2,3,4,5,6,7],[1,2,3,4,5,6,7,8],[1,2,3,4,5,6,7,8,9],[1,2,3,4,5,6,7,8,9,10],[1,2,3,4,5,6,7,8,9,10,11],[1,2,3,4,5,6,7,8,9,10,11,12],[1,2,3,4,5,6,7,8,9,10,11,12,13],[1,2,3,4,5,6,7,8,9,10,11,12,13,14],[0,1,2,3,4,5,6,7,8,9,10,11,12,13,14],[0,1,2,3,4,5,6,7,8,9,10,11,12,13,14,15,16]] mix (by kernel_rfl) ?_)) | ((with_reducible show DLeft _ _ _ _ (_ :: _) _ _ _ _); (with_reducible apply DLeft.step hT); (case hoi => ((simp only [List.getElem?_toArray,List.getElem?_cons_zero,List.getElem?_cons_succ]); with_reducible rfl)); (case hg => rfl); (case hk => rfl); (case hr => ((try simp (maxSteps := 3000000) (maxDischargeDepth := 12) only [push_cast,appendX,reduceIte,reduceCtorEq,Nat.reduceSub,Nat.reduceAdd,Nat.reduceMul,Nat.reduceLT,Nat.reduceLeDiff,Nat.reduceEqDiff,Nat.reduceBEq,Int.reduceToNat,Int.reduceLT,Int.reduceLE,Int.reduceEq,Int.reduceNeg,Try.results41,gtp,Heap.lt gtp,dcv0,dcv1,dcv4,dcv6,dcv7,gt1,Heap.lt gt1,gtA,Heap.lt gtA,gtB,Heap.lt gtB,xtA.2,xtA.ltT,xtA.leT,dcpA,dcAp,dcpB,dcBp,dcAB,dcBA,gt2,Heap.lt gt2,xt2.2,xt2.ltT,xt2.leT,gt3,Heap.lt gt3,xt3.2,xt3.ltT,xt3.leT,gt4,Heap.lt gt4,xt4.2,xt4.ltT,xt4.leT]); with_reducible rfl))) | ((with_reducible refine AW.cond_true ?_ ?_); · rfl) | ((with_reducible refine AW.cond_false ?_ ?_); · rfl) | simp (maxSteps := 3000000) (maxDischargeDepth := 12) only [push_cast,appendX,reduceIte,reduceCtorEq,Nat.reduceSub,Nat.reduceAdd,Nat.reduceMul,Nat.reduceLT,Nat.reduceLeDiff,Nat.reduceEqDiff,Nat.reduceBEq,Int.reduceToNat,Int.reduceLT,Int.reduceLE,Int.reduceEq,Int.reduceNeg,Try.results41,gtp,Heap.lt gtp,dcv0,dcv1,dcv4,dcv6,dcv7,gt1,Heap.lt gt1,gtA,Heap.lt gtA,gtB,Heap.lt gtB,xtA.2,xtA.ltT,xtA.leT,dcpA,dcAp,dcpB,dcBp,dcAB,dcBA,gt2,Heap.lt gt2,xt2.2,xt2.ltT,xt2.leT,gt3,Heap.lt gt3,xt3.2,xt3.ltT,xt3.leT,gt4,Heap.lt gt4,xt4.2,xt4.ltT,xt4.leT])
  refine AOpsL.call (first := []) (cap := []) hT rfl rfl rfl fn45 rfl (ACalls.mono (uint_st (l := l) _ 4 4 rfl (by simp (maxSteps := 3000000) (maxDischargeDepth := 12) only [push_cast, appendX, Nat.reduceAdd, Nat.reduceEqDiff, Nat.reduceLT, Nat.reduceLeDiff, reduceIte, reduceCtorEq, dcpA, gtp, Heap.lt gtp, dcv0, dcv1, dcv4, dcv6, dcv7, gt1, Heap.lt gt1, gtA, Heap.lt gtA, gtB, Heap.lt gtB, xtA.2, xtA.ltT, xtA.leT, dcpA, dcAp, dcpB, dcBp, dcAB, dcBA, gt2, Heap.lt gt2, xt2.2, xt2.ltT, xt2.leT, gt3, Heap.lt gt3, xt3.2, xt3.ltT, xt3.leT, gt4, Heap.lt gt4, xt4.2, xt4.ltT, xt4.leT]) ho) ?_)
  rintro y σ5 ⟨rfl, gt5, xt5⟩
  repeat (first | (with_reducible refine AW.seq ?_) | (with_reducible refine AW.block ?_) | (with_reducible refine AW.skip ?_) | (with_reducible refine AW.ret ?_) | (with_reducible refine AW.exit ?_) | (with_reducible refine AW.reg hT ?_) | ((with_reducible show AW _ (.region 16 _ _) _ _ _); (with_reducible refine AW.drawn (id := 16) hT [0,1,2,3,4,5,6,7,8,9,10,11,12,13,14,15,16,17] [[],[],[1],[1,2],[1,2,3],[1,2,3,4],[1,2,3,4,5],[1,2,3,4,5,6],[1,2,3,4,5,6,7],[1,2,3,4,5,6,7,8],[1,2,3,4,5,6,7,8,9],[1,2,3,4,5,6,7,8,9,10],[1,2,3,4,5,6,7,8,9,10,11],[1,2,3,4,5,6,7,8,9,10,11,12],[1,2,3,4,5,6,7,8,9,10,11,12,13],[1,2,3,4,5,6,7,8,9,10,11,12,13,14],[0,1,2,3,4,5,6,7,8,9,10,11,12,13,14],[0,1,2,3,4,5,6,7,8,9,10,11,12,13,14,15,16]] mix (by kernel_rfl) ?_)) | ((with_reducible show DLeft _ _ _ _ (_ :: _) _ _ _ _); (with_reducible apply DLeft.step hT); (case hoi => ((simp only [List.getElem?_toArray,List.getElem?_cons_zero,List.getElem?_cons_succ]); with_reducible rfl)); (case hg => rfl); (case hk => rfl); (case hr => ((try simp (maxSteps := 3000000) (maxDischargeDepth := 12) only [push_cast,appendX,reduceIte,reduceCtorEq,Nat.reduceSub,Nat.reduceAdd,Nat.reduceMul,Nat.reduceLT,Nat.reduceLeDiff,Nat.reduceEqDiff,Nat.reduceBEq,Int.reduceToNat,Int.reduceLT,Int.reduceLE,Int.reduceEq,Int.reduceNeg,Try.results41,gtp,Heap.lt gtp,dcv0,dcv1,dcv4,dcv6,dcv7,gt1,Heap.lt gt1,gtA,Heap.lt gtA,gtB,Heap.lt gtB,xtA.2,xtA.ltT,xtA.leT,dcpA,dcAp,dcpB,dcBp,dcAB,dcBA,gt2,Heap.lt gt2,xt2.2,xt2.ltT,xt2.leT,gt3,Heap.lt gt3,xt3.2,xt3.ltT,xt3.leT,gt4,Heap.lt gt4,xt4.2,xt4.ltT,xt4.leT,gt5,Heap.lt gt5,xt5.2,xt5.ltT,xt5.leT]); with_reducible rfl))) | ((with_reducible refine AW.cond_true ?_ ?_); · rfl) | ((with_reducible refine AW.cond_false ?_ ?_); · rfl) | simp (maxSteps := 3000000) (maxDischargeDepth := 12) only [push_cast,appendX,reduceIte,reduceCtorEq,Nat.reduceSub,Nat.reduceAdd,Nat.reduceMul,Nat.reduceLT,Nat.reduceLeDiff,Nat.reduceEqDiff,Nat.reduceBEq,Int.reduceToNat,Int.reduceLT,Int.reduceLE,Int.reduceEq,Int.reduceNeg,Try.results41,gtp,Heap.lt gtp,dcv0,dcv1,dcv4,dcv6,dcv7,gt1,Heap.lt gt1,gtA,Heap.lt gtA,gtB,Heap.lt gtB,xtA.2,xtA.ltT,xtA.leT,dcpA,dcAp,dcpB,dcBp,dcAB,dcBA,gt2,Heap.lt gt2,xt2.2,xt2.ltT,xt2.leT,gt3,Heap.lt gt3,xt3.2,xt3.ltT,xt3.leT,gt4,Heap.lt gt4,xt4.2,xt4.ltT,xt4.leT,gt5,Heap.lt gt5,xt5.2,xt5.ltT,xt5.leT])
  refine AOpsL.call (first := []) (cap := []) hT rfl rfl rfl fn45 rfl (ACalls.mono (uint_st (l := l) _ 5 8 rfl (by simp (maxSteps := 3000000) (maxDischargeDepth := 12) only [push_cast, appendX, Nat.reduceAdd, Nat.reduceEqDiff, Nat.reduceLT, Nat.reduceLeDiff, reduceIte, reduceCtorEq, dcpA, gtp, Heap.lt gtp, dcv0, dcv1, dcv4, dcv6, dcv7, gt1, Heap.lt gt1, gtA, Heap.lt gtA, gtB, Heap.lt gtB, xtA.2, xtA.ltT, xtA.leT, dcpA, dcAp, dcpB, dcBp, dcAB, dcBA, gt2, Heap.lt gt2, xt2.2, xt2.ltT, xt2.leT, gt3, Heap.lt gt3, xt3.2, xt3.ltT, xt3.leT, gt4, Heap.lt gt4, xt4.2, xt4.ltT, xt4.leT, gt5, Heap.lt gt5, xt5.2, xt5.ltT, xt5.leT]) ho) ?_)
  rintro y σ6 ⟨rfl, gt6, xt6⟩
  repeat (first | (with_reducible refine AW.seq ?_) | (with_reducible refine AW.block ?_) | (with_reducible refine AW.skip ?_) | (with_reducible refine AW.ret ?_) | (with_reducible refine AW.exit ?_) | (with_reducible refine AW.reg hT ?_) | ((with_reducible show AW _ (.region 16 _ _) _ _ _); (with_reducible refine AW.drawn (id := 16) hT [0,1,2,3,4,5,6,7,8,9,10,11,12,13,14,15,16,17] [[],[],[1],[1,2],[1,2,3],[1,2,3,4],[1,2,3,4,5],[1,2,3,4,5,6],[1,2,3,4,5,6,7],[1,2,3,4,5,6,7,8],[1,2,3,4,5,6,7,8,9],[1,2,3,4,5,6,7,8,9,10],[1,2,3,4,5,6,7,8,9,10,11],[1,2,3,4,5,6,7,8,9,10,11,12],[1,2,3,4,5,6,7,8,9,10,11,12,13],[1,2,3,4,5,6,7,8,9,10,11,12,13,14],[0,1,2,3,4,5,6,7,8,9,10,11,12,13,14],[0,1,2,3,4,5,6,7,8,9,10,11,12,13,14,15,16]] mix (by kernel_rfl) ?_)) | ((with_reducible show DLeft _ _ _ _ (_ :: _) _ _ _ _); (with_reducible apply DLeft.step hT); (case hoi => ((simp only [List.getElem?_toArray,List.getElem?_cons_zero,List.getElem?_cons_succ]); with_reducible rfl)); (case hg => rfl); (case hk => rfl); (case hr => ((try simp (maxSteps := 3000000) (maxDischargeDepth := 12) only [push_cast,appendX,reduceIte,reduceCtorEq,Nat.reduceSub,Nat.reduceAdd,Nat.reduceMul,Nat.reduceLT,Nat.reduceLeDiff,Nat.reduceEqDiff,Nat.reduceBEq,Int.reduceToNat,Int.reduceLT,Int.reduceLE,Int.reduceEq,Int.reduceNeg,Try.results41,gtp,Heap.lt gtp,dcv0,dcv1,dcv4,dcv6,dcv7,gt1,Heap.lt gt1,gtA,Heap.lt gtA,gtB,Heap.lt gtB,xtA.2,xtA.ltT,xtA.leT,dcpA,dcAp,dcpB,dcBp,dcAB,dcBA,gt2,Heap.lt gt2,xt2.2,xt2.ltT,xt2.leT,gt3,Heap.lt gt3,xt3.2,xt3.ltT,xt3.leT,gt4,Heap.lt gt4,xt4.2,xt4.ltT,xt4.leT,gt5,Heap.lt gt5,xt5.2,xt5.ltT,xt5.leT,gt6,Heap.lt gt6,xt6.2,xt6.ltT,xt6.leT]); with_reducible rfl))) | ((with_reducible refine AW.cond_true ?_ ?_); · rfl) | ((with_reducible refine AW.cond_false ?_ ?_); · rfl) | simp (maxSteps := 3000000) (maxDischargeDepth := 12) only [push_cast,appendX,reduceIte,reduceCtorEq,Nat.reduceSub,Nat.reduceAdd,Nat.reduceMul,Nat.reduceLT,Nat.reduceLeDiff,Nat.reduceEqDiff,Nat.reduceBEq,Int.reduceToNat,Int.reduceLT,Int.reduceLE,Int.reduceEq,Int.reduceNeg,Try.results41,gtp,Heap.lt gtp,dcv0,dcv1,dcv4,dcv6,dcv7,gt1,Heap.lt gt1,gtA,Heap.lt gtA,gtB,Heap.lt gtB,xtA.2,xtA.ltT,xtA.leT,dcpA,dcAp,dcpB,dcBp,dcAB,dcBA,gt2,Heap.lt gt2,xt2.2,xt2.ltT,xt2.leT,gt3,Heap.lt gt3,xt3.2,xt3.ltT,xt3.leT,gt4,Heap.lt gt4,xt4.2,xt4.ltT,xt4.leT,gt5,Heap.lt gt5,xt5.2,xt5.ltT,xt5.leT,gt6,Heap.lt gt6,xt6.2,xt6.ltT,xt6.leT])
  refine AOpsL.call (first := []) (cap := []) hT rfl rfl rfl fn45 rfl (ACalls.mono (uint_st (l := l) _ 6 4 rfl (by simp (maxSteps := 3000000) (maxDischargeDepth := 12) only [push_cast, appendX, Nat.reduceAdd, Nat.reduceEqDiff, Nat.reduceLT, Nat.reduceLeDiff, reduceIte, reduceCtorEq, dcpA, gtp, Heap.lt gtp, dcv0, dcv1, dcv4, dcv6, dcv7, gt1, Heap.lt gt1, gtA, Heap.lt gtA, gtB, Heap.lt gtB, xtA.2, xtA.ltT, xtA.leT, dcpA, dcAp, dcpB, dcBp, dcAB, dcBA, gt2, Heap.lt gt2, xt2.2, xt2.ltT, xt2.leT, gt3, Heap.lt gt3, xt3.2, xt3.ltT, xt3.leT, gt4, Heap.lt gt4, xt4.2, xt4.ltT, xt4.leT, gt5, Heap.lt gt5, xt5.2, xt5.ltT, xt5.leT, gt6, Heap.lt gt6, xt6.2, xt6.ltT, xt6.leT]) ho) ?_)
  rintro y σ7 ⟨rfl, gt7, xt7⟩
  repeat (first | (with_reducible refine AW.seq ?_) | (with_reducible refine AW.block ?_) | (with_reducible refine AW.skip ?_) | (with_reducible refine AW.ret ?_) | (with_reducible refine AW.exit ?_) | (with_reducible refine AW.reg hT ?_) | ((with_reducible show AW _ (.region 16 _ _) _ _ _); (with_reducible refine AW.drawn (id := 16) hT [0,1,2,3,4,5,6,7,8,9,10,11,12,13,14,15,16,17] [[],[],[1],[1,2],[1,2,3],[1,2,3,4],[1,2,3,4,5],[1,2,3,4,5,6],[1,2,3,4,5,6,7],[1,2,3,4,5,6,7,8],[1,2,3,4,5,6,7,8,9],[1,2,3,4,5,6,7,8,9,10],[1,2,3,4,5,6,7,8,9,10,11],[1,2,3,4,5,6,7,8,9,10,11,12],[1,2,3,4,5,6,7,8,9,10,11,12,13],[1,2,3,4,5,6,7,8,9,10,11,12,13,14],[0,1,2,3,4,5,6,7,8,9,10,11,12,13,14],[0,1,2,3,4,5,6,7,8,9,10,11,12,13,14,15,16]] mix (by kernel_rfl) ?_)) | ((with_reducible show DLeft _ _ _ _ (_ :: _) _ _ _ _); (with_reducible apply DLeft.step hT); (case hoi => ((simp only [List.getElem?_toArray,List.getElem?_cons_zero,List.getElem?_cons_succ]); with_reducible rfl)); (case hg => rfl); (case hk => rfl); (case hr => ((try simp (maxSteps := 3000000) (maxDischargeDepth := 12) only [push_cast,appendX,reduceIte,reduceCtorEq,Nat.reduceSub,Nat.reduceAdd,Nat.reduceMul,Nat.reduceLT,Nat.reduceLeDiff,Nat.reduceEqDiff,Nat.reduceBEq,Int.reduceToNat,Int.reduceLT,Int.reduceLE,Int.reduceEq,Int.reduceNeg,Try.results41,gtp,Heap.lt gtp,dcv0,dcv1,dcv4,dcv6,dcv7,gt1,Heap.lt gt1,gtA,Heap.lt gtA,gtB,Heap.lt gtB,xtA.2,xtA.ltT,xtA.leT,dcpA,dcAp,dcpB,dcBp,dcAB,dcBA,gt2,Heap.lt gt2,xt2.2,xt2.ltT,xt2.leT,gt3,Heap.lt gt3,xt3.2,xt3.ltT,xt3.leT,gt4,Heap.lt gt4,xt4.2,xt4.ltT,xt4.leT,gt5,Heap.lt gt5,xt5.2,xt5.ltT,xt5.leT,gt6,Heap.lt gt6,xt6.2,xt6.ltT,xt6.leT,gt7,Heap.lt gt7,xt7.2,xt7.ltT,xt7.leT]); with_reducible rfl))) | ((with_reducible refine AW.cond_true ?_ ?_); · rfl) | ((with_reducible refine AW.cond_false ?_ ?_); · rfl) | simp (maxSteps := 3000000) (maxDischargeDepth := 12) only [push_cast,appendX,reduceIte,reduceCtorEq,Nat.reduceSub,Nat.reduceAdd,Nat.reduceMul,Nat.reduceLT,Nat.reduceLeDiff,Nat.reduceEqDiff,Nat.reduceBEq,Int.reduceToNat,Int.reduceLT,Int.reduceLE,Int.reduceEq,Int.reduceNeg,Try.results41,gtp,Heap.lt gtp,dcv0,dcv1,dcv4,dcv6,dcv7,gt1,Heap.lt gt1,gtA,Heap.lt gtA,gtB,Heap.lt gtB,xtA.2,xtA.ltT,xtA.leT,dcpA,dcAp,dcpB,dcBp,dcAB,dcBA,gt2,Heap.lt gt2,xt2.2,xt2.ltT,xt2.leT,gt3,Heap.lt gt3,xt3.2,xt3.ltT,xt3.leT,gt4,Heap.lt gt4,xt4.2,xt4.ltT,xt4.leT,gt5,Heap.lt gt5,xt5.2,xt5.ltT,xt5.leT,gt6,Heap.lt gt6,xt6.2,xt6.ltT,xt6.leT,gt7,Heap.lt gt7,xt7.2,xt7.ltT,xt7.leT])
  refine AOpsL.call (first := []) (cap := []) hT rfl rfl rfl fn45 rfl (ACalls.mono (uint_st (l := l) _ 7 4 rfl (by simp (maxSteps := 3000000) (maxDischargeDepth := 12) only [push_cast, appendX, Nat.reduceAdd, Nat.reduceEqDiff, Nat.reduceLT, Nat.reduceLeDiff, reduceIte, reduceCtorEq, dcpA, gtp, Heap.lt gtp, dcv0, dcv1, dcv4, dcv6, dcv7, gt1, Heap.lt gt1, gtA, Heap.lt gtA, gtB, Heap.lt gtB, xtA.2, xtA.ltT, xtA.leT, dcpA, dcAp, dcpB, dcBp, dcAB, dcBA, gt2, Heap.lt gt2, xt2.2, xt2.ltT, xt2.leT, gt3, Heap.lt gt3, xt3.2, xt3.ltT, xt3.leT, gt4, Heap.lt gt4, xt4.2, xt4.ltT, xt4.leT, gt5, Heap.lt gt5, xt5.2, xt5.ltT, xt5.leT, gt6, Heap.lt gt6, xt6.2, xt6.ltT, xt6.leT, gt7, Heap.lt gt7, xt7.2, xt7.ltT, xt7.leT]) ho) ?_)
  rintro y σ8 ⟨rfl, gt8, xt8⟩
  repeat ((fail_if_success (with_reducible refine AW.at1 (id := 11) ?_)); (fail_if_success (with_reducible refine AW.at2 (id := 11) ?_)); first | (with_reducible refine AW.seq ?_) | (with_reducible refine AW.block ?_) | (with_reducible refine AW.skip ?_) | (with_reducible refine AW.ret ?_) | (with_reducible refine AW.exit ?_) | (with_reducible refine AW.reg hT ?_) | ((with_reducible show AW _ (.region 16 _ _) _ _ _); (with_reducible refine AW.drawn (id := 16) hT [0,1,2,3,4,5,6,7,8,9,10,11,12,13,14,15,16,17] [[],[],[1],[1,2],[1,2,3],[1,2,3,4],[1,2,3,4,5],[1,2,3,4,5,6],[1,2,3,4,5,6,7],[1,2,3,4,5,6,7,8],[1,2,3,4,5,6,7,8,9],[1,2,3,4,5,6,7,8,9,10],[1,2,3,4,5,6,7,8,9,10,11],[1,2,3,4,5,6,7,8,9,10,11,12],[1,2,3,4,5,6,7,8,9,10,11,12,13],[1,2,3,4,5,6,7,8,9,10,11,12,13,14],[0,1,2,3,4,5,6,7,8,9,10,11,12,13,14],[0,1,2,3,4,5,6,7,8,9,10,11,12,13,14,15,16]] mix (by kernel_rfl) ?_)) | ((with_reducible show DLeft _ _ _ _ (_ :: _) _ _ _ _); (with_reducible apply DLeft.step hT); (case hoi => ((simp only [List.getElem?_toArray,List.getElem?_cons_zero,List.getElem?_cons_succ]); with_reducible rfl)); (case hg => rfl); (case hk => rfl); (case hr => ((try simp (maxSteps := 3000000) (maxDischargeDepth := 12) only [push_cast,appendX,reduceIte,reduceCtorEq,Nat.reduceSub,Nat.reduceAdd,Nat.reduceMul,Nat.reduceLT,Nat.reduceLeDiff,Nat.reduceEqDiff,Nat.reduceBEq,Int.reduceToNat,Int.reduceLT,Int.reduceLE,Int.reduceEq,Int.reduceNeg,Try.results41,gtp,Heap.lt gtp,dcv0,dcv1,dcv4,dcv6,dcv7,gt1,Heap.lt gt1,gtA,Heap.lt gtA,gtB,Heap.lt gtB,xtA.2,xtA.ltT,xtA.leT,dcpA,dcAp,dcpB,dcBp,dcAB,dcBA,gt2,Heap.lt gt2,xt2.2,xt2.ltT,xt2.leT,gt3,Heap.lt gt3,xt3.2,xt3.ltT,xt3.leT,gt4,Heap.lt gt4,xt4.2,xt4.ltT,xt4.leT,gt5,Heap.lt gt5,xt5.2,xt5.ltT,xt5.leT,gt6,Heap.lt gt6,xt6.2,xt6.ltT,xt6.leT,gt7,Heap.lt gt7,xt7.2,xt7.ltT,xt7.leT,gt8,Heap.lt gt8,xt8.2,xt8.ltT,xt8.leT]); with_reducible rfl))) | ((with_reducible refine AW.cond_true ?_ ?_); · rfl) | ((with_reducible refine AW.cond_false ?_ ?_); · rfl) | simp (maxSteps := 3000000) (maxDischargeDepth := 12) only [push_cast,appendX,reduceIte,reduceCtorEq,Nat.reduceSub,Nat.reduceAdd,Nat.reduceMul,Nat.reduceLT,Nat.reduceLeDiff,Nat.reduceEqDiff,Nat.reduceBEq,Int.reduceToNat,Int.reduceLT,Int.reduceLE,Int.reduceEq,Int.reduceNeg,Try.results41,gtp,Heap.lt gtp,dcv0,dcv1,dcv4,dcv6,dcv7,gt1,Heap.lt gt1,gtA,Heap.lt gtA,gtB,Heap.lt gtB,xtA.2,xtA.ltT,xtA.leT,dcpA,dcAp,dcpB,dcBp,dcAB,dcBA,gt2,Heap.lt gt2,xt2.2,xt2.ltT,xt2.leT,gt3,Heap.lt gt3,xt3.2,xt3.ltT,xt3.leT,gt4,Heap.lt gt4,xt4.2,xt4.ltT,xt4.leT,gt5,Heap.lt gt5,xt5.2,xt5.ltT,xt5.leT,gt6,Heap.lt gt6,xt6.2,xt6.ltT,xt6.leT,gt7,Heap.lt gt7,xt7.2,xt7.ltT,xt7.leT,gt8,Heap.lt gt8,xt8.2,xt8.ltT,xt8.leT])
  have gt9 : (σ8.set q4 (oA l 0)).get p = some (ROb (st l 8).1 (st l 8).2) := by rw [Heap.get_set_ne (Ne.symm hpA)]; exact gt8
  have hlt8 : q4 < σ8.n := by
    have h1 := (Heap.lt gtA)
    have h2 := xt2.1; have h3 := xt3.1; have h4 := xt4.1; have h5 := xt5.1; have h6 := xt6.1; have h7 := xt7.1; have h8 := xt8.1
    simp only [Heap.n_set] at h2 h3 h4 h5 h6 h7 h8
    omega
  have gtC : (σ8.set q4 (oA l 0)).get q4 = some (oA l 0) := Heap.get_set hlt8
  have gtD : (σ8.set q4 (oA l 0)).get q2 = some oZ := by simp (maxSteps := 3000000) (maxDischargeDepth := 12) only [push_cast, appendX, Nat.reduceAdd, Nat.reduceEqDiff, Nat.reduceLT, Nat.reduceLeDiff, reduceIte, reduceCtorEq, oZ, eA_eq, dcBp, dcAB, dcBA, gtp, Heap.lt gtp, dcv0, dcv1, dcv4, dcv6, dcv7, gt1, Heap.lt gt1, gtA, Heap.lt gtA, gtB, Heap.lt gtB, xtA.2, xtA.ltT, xtA.leT, dcpA, dcAp, dcpB, dcBp, dcAB, dcBA, gt2, Heap.lt gt2, xt2.2, xt2.ltT, xt2.leT, gt3, Heap.lt gt3, xt3.2, xt3.ltT, xt3.leT, gt4, Heap.lt gt4, xt4.2, xt4.ltT, xt4.leT, gt5, Heap.lt gt5, xt5.2, xt5.ltT, xt5.leT, gt6, Heap.lt gt6, xt6.2, xt6.ltT, xt6.leT, gt7, Heap.lt gt7, xt7.2, xt7.ltT, xt7.leT, gt8, Heap.lt gt8, xt8.2, xt8.ltT, xt8.leT, gt9, Heap.lt gt9, gtC, Heap.lt gtC]
  have xtD : Ext [p] σ (σ8.set q4 (oA l 0)) := by
    have a2 : Ext [q4, p] σ1 σ2 := by repeat (first | exact Ext.refl _ _ | assumption | refine Ext.push ?_ _ | ((refine Ext.set ?_ ?_ _); rotate_left; · (simp (maxSteps := 3000000) (maxDischargeDepth := 12) only [push_cast, appendX, Nat.reduceAdd, Nat.reduceEqDiff, Nat.reduceLT, Nat.reduceLeDiff, reduceIte, reduceCtorEq, gtp, Heap.lt gtp, dcv0, dcv1, dcv4, dcv6, dcv7, gt1, Heap.lt gt1, gtA, Heap.lt gtA, gtB, Heap.lt gtB, xtA.2, xtA.ltT, xtA.leT, dcpA, dcAp, dcpB, dcBp, dcAB, dcBA, gt2, Heap.lt gt2, xt2.2, xt2.ltT, xt2.leT, gt3, Heap.lt gt3, xt3.2, xt3.ltT, xt3.leT, gt4, Heap.lt gt4, xt4.2, xt4.ltT, xt4.leT, gt5, Heap.lt gt5, xt5.2, xt5.ltT, xt5.leT, gt6, Heap.lt gt6, xt6.2, xt6.ltT, xt6.leT, gt7, Heap.lt gt7, xt7.2, xt7.ltT, xt7.leT, gt8, Heap.lt gt8, xt8.2, xt8.ltT, xt8.leT, gt9, Heap.lt gt9, gtC, Heap.lt gtC, gtD, Heap.lt gtD])) | ((refine Ext.then1 (by assumption) ?_ ?_); rotate_left; · (intro p hp _; first | assumption | exact List.mem_cons_of_mem _ hp | (cases hp; done) | (simp at hp; subst hp; simp))))
    have a3 : Ext [q4, p] σ2 σ3 := by repeat (first | exact Ext.refl _ _ | assumption | refine Ext.push ?_ _ | ((refine Ext.set ?_ ?_ _); rotate_left; · (simp (maxSteps := 3000000) (maxDischargeDepth := 12) only [push_cast, appendX, Nat.reduceAdd, Nat.reduceEqDiff, Nat.reduceLT, Nat.reduceLeDiff, reduceIte, reduceCtorEq, gtp, Heap.lt gtp, dcv0, dcv1, dcv4, dcv6, dcv7, gt1, Heap.lt gt1, gtA, Heap.lt gtA, gtB, Heap.lt gtB, xtA.2, xtA.ltT, xtA.leT, dcpA, dcAp, dcpB, dcBp, dcAB, dcBA, gt2, Heap.lt gt2, xt2.2, xt2.ltT, xt2.leT, gt3, Heap.lt gt3, xt3.2, xt3.ltT, xt3.leT, gt4, Heap.lt gt4, xt4.2, xt4.ltT, xt4.leT, gt5, Heap.lt gt5, xt5.2, xt5.ltT, xt5.leT, gt6, Heap.lt gt6, xt6.2, xt6.ltT, xt6.leT, gt7, Heap.lt gt7, xt7.2, xt7.ltT, xt7.leT, gt8, Heap.lt gt8, xt8.2, xt8.ltT, xt8.leT, gt9, Heap.lt gt9, gtC, Heap.lt gtC, gtD, Heap.lt gtD])) | ((refine Ext.then1 (by assumption) ?_ ?_); rotate_left; · (intro p hp _; first | assumption | exact List.mem_cons_of_mem _ hp | (cases hp; done) | (simp at hp; subst hp; simp))))
    have a4 : Ext [q4, p] σ3 σ4 := by repeat (first | exact Ext.refl _ _ | assumption | refine Ext.push ?_ _ | ((refine Ext.set ?_ ?_ _); rotate_left; · (simp (maxSteps := 3000000) (maxDischargeDepth := 12) only [push_cast, appendX, Nat.reduceAdd, Nat.reduceEqDiff, Nat.reduceLT, Nat.reduceLeDiff, reduceIte, reduceCtorEq, gtp, Heap.lt gtp, dcv0, dcv1, dcv4, dcv6, dcv7, gt1, Heap.lt gt1, gtA, Heap.lt gtA, gtB, Heap.lt gtB, xtA.2, xtA.ltT, xtA.leT, dcpA, dcAp, dcpB, dcBp, dcAB, dcBA, gt2, Heap.lt gt2, xt2.2, xt2.ltT, xt2.leT, gt3, Heap.lt gt3, xt3.2, xt3.ltT, xt3.leT, gt4, Heap.lt gt4, xt4.2, xt4.ltT, xt4.leT, gt5, Heap.lt gt5, xt5.2, xt5.ltT, xt5.leT, gt6, Heap.lt gt6, xt6.2, xt6.ltT, xt6.leT, gt7, Heap.lt gt7, xt7.2, xt7.ltT, xt7.leT, gt8, Heap.lt gt8, xt8.2, xt8.ltT, xt8.leT, gt9, Heap.lt gt9, gtC, Heap.lt gtC, gtD, Heap.lt gtD])) | ((refine Ext.then1 (by assumption) ?_ ?_); rotate_left; · (intro p hp _; first | assumption | exact List.mem_cons_of_mem _ hp | (cases hp; done) | (simp at hp; subst hp; simp))))
    have a5 : Ext [q4, p] σ4 σ5 := by repeat (first | exact Ext.refl _ _ | assumption | refine Ext.push ?_ _ | ((refine Ext.set ?_ ?_ _); rotate_left; · (simp (maxSteps := 3000000) (maxDischargeDepth := 12) only [push_cast, appendX, Nat.reduceAdd, Nat.reduceEqDiff, Nat.reduceLT, Nat.reduceLeDiff, reduceIte, reduceCtorEq, gtp, Heap.lt gtp, dcv0, dcv1, dcv4, dcv6, dcv7, gt1, Heap.lt gt1, gtA, Heap.lt gtA, gtB, Heap.lt gtB, xtA.2, xtA.ltT, xtA.leT, dcpA, dcAp, dcpB, dcBp, dcAB, dcBA, gt2, Heap.lt gt2, xt2.2, xt2.ltT, xt2.leT, gt3, Heap.lt gt3, xt3.2, xt3.ltT, xt3.leT, gt4, Heap.lt gt4, xt4.2, xt4.ltT, xt4.leT, gt5, Heap.lt gt5, xt5.2, xt5.ltT, xt5.leT, gt6, Heap.lt gt6, xt6.2, xt6.ltT, xt6.leT, gt7, Heap.lt gt7, xt7.2, xt7.ltT, xt7.leT, gt8, Heap.lt gt8, xt8.2, xt8.ltT, xt8.leT, gt9, Heap.lt gt9, gtC, Heap.lt gtC, gtD, Heap.lt gtD])) | ((refine Ext.then1 (by assumption) ?_ ?_); rotate_left; · (intro p hp _; first | assumption | exact List.mem_cons_of_mem _ hp | (cases hp; done) | (simp at hp; subst hp; simp))))
    have a6 : Ext [q4, p] σ5 σ6 := by repeat (first | exact Ext.refl _ _ | assumption | refine Ext.push ?_ _ | ((refine Ext.set ?_ ?_ _); rotate_left; · (simp (maxSteps := 3000000) (maxDischargeDepth := 12) only [push_cast, appendX, Nat.reduceAdd, Nat.reduceEqDiff, Nat.reduceLT, Nat.reduceLeDiff, reduceIte, reduceCtorEq, gtp, Heap.lt gtp, dcv0, dcv1, dcv4, dcv6, dcv7, gt1, Heap.lt gt1, gtA, Heap.lt gtA, gtB, Heap.lt gtB, xtA.2, xtA.ltT, xtA.leT, dcpA, dcAp, dcpB, dcBp, dcAB, dcBA, gt2, Heap.lt gt2, xt2.2, xt2.ltT, xt2.leT, gt3, Heap.lt gt3, xt3.2, xt3.ltT, xt3.leT, gt4, Heap.lt gt4, xt4.2, xt4.ltT, xt4.leT, gt5, Heap.lt gt5, xt5.2, xt5.ltT, xt5.leT, gt6, Heap.lt gt6, xt6.2, xt6.ltT, xt6.leT, gt7, Heap.lt gt7, xt7.2, xt7.ltT, xt7.leT, gt8, Heap.lt gt8, xt8.2, xt8.ltT, xt8.leT, gt9, Heap.lt gt9, gtC, Heap.lt gtC, gtD, Heap.lt gtD])) | ((refine Ext.then1 (by assumption) ?_ ?_); rotate_left; · (intro p hp _; first | assumption | exact List.mem_cons_of_mem _ hp | (cases hp; done) | (simp at hp; subst hp; simp))))
    have a7 : Ext [q4, p] σ6 σ7 := by repeat (first | exact Ext.refl _ _ | assumption | refine Ext.push ?_ _ | ((refine Ext.set ?_ ?_ _); rotate_left; · (simp (maxSteps := 3000000) (maxDischargeDepth := 12) only [push_cast, appendX, Nat.reduceAdd, Nat.reduceEqDiff, Nat.reduceLT, Nat.reduceLeDiff, reduceIte, reduceCtorEq, gtp, Heap.lt gtp, dcv0, dcv1, dcv4, dcv6, dcv7, gt1, Heap.lt gt1, gtA, Heap.lt gtA, gtB, Heap.lt gtB, xtA.2, xtA.ltT, xtA.leT, dcpA, dcAp, dcpB, dcBp, dcAB, dcBA, gt2, Heap.lt gt2, xt2.2, xt2.ltT, xt2.leT, gt3, Heap.lt gt3, xt3.2, xt3.ltT, xt3.leT, gt4, Heap.lt gt4, xt4.2, xt4.ltT, xt4.leT, gt5, Heap.lt gt5, xt5.2, xt5.ltT, xt5.leT, gt6, Heap.lt gt6, xt6.2, xt6.ltT, xt6.leT, gt7, Heap.lt gt7, xt7.2, xt7.ltT, xt7.leT, gt8, Heap.lt gt8, xt8.2, xt8.ltT, xt8.leT, gt9, Heap.lt gt9, gtC, Heap.lt gtC, gtD, Heap.lt gtD])) | ((refine Ext.then1 (by assumption) ?_ ?_); rotate_left; · (intro p hp _; first | assumption | exact List.mem_cons_of_mem _ hp | (cases hp; done) | (simp at hp; subst hp; simp))))
    have a8 : Ext [q4, p] σ7 σ8 := by repeat (first | exact Ext.refl _ _ | assumption | refine Ext.push ?_ _ | ((refine Ext.set ?_ ?_ _); rotate_left; · (simp (maxSteps := 3000000) (maxDischargeDepth := 12) only [push_cast, appendX, Nat.reduceAdd, Nat.reduceEqDiff, Nat.reduceLT, Nat.reduceLeDiff, reduceIte, reduceCtorEq, gtp, Heap.lt gtp, dcv0, dcv1, dcv4, dcv6, dcv7, gt1, Heap.lt gt1, gtA, Heap.lt gtA, gtB, Heap.lt gtB, xtA.2, xtA.ltT, xtA.leT, dcpA, dcAp, dcpB, dcBp, dcAB, dcBA, gt2, Heap.lt gt2, xt2.2, xt2.ltT, xt2.leT, gt3, Heap.lt gt3, xt3.2, xt3.ltT, xt3.leT, gt4, Heap.lt gt4, xt4.2, xt4.ltT, xt4.leT, gt5, Heap.lt gt5, xt5.2, xt5.ltT, xt5.leT, gt6, Heap.lt gt6, xt6.2, xt6.ltT, xt6.leT, gt7, Heap.lt gt7, xt7.2, xt7.ltT, xt7.leT, gt8, Heap.lt gt8, xt8.2, xt8.ltT, xt8.leT, gt9, Heap.lt gt9, gtC, Heap.lt gtC, gtD, Heap.lt gtD])) | ((refine Ext.then1 (by assumption) ?_ ?_); rotate_left; · (intro p hp _; first | assumption | exact List.mem_cons_of_mem _ hp | (cases hp; done) | (simp at hp; subst hp; simp))))
    have a9 : Ext [q4, p] σ8 (σ8.set q4 (oA l 0)) := by repeat (first | exact Ext.refl _ _ | assumption | refine Ext.push ?_ _ | ((refine Ext.set ?_ ?_ _); rotate_left; · (simp (maxSteps := 3000000) (maxDischargeDepth := 12) only [push_cast, appendX, Nat.reduceAdd, Nat.reduceEqDiff, Nat.reduceLT, Nat.reduceLeDiff, reduceIte, reduceCtorEq, gtp, Heap.lt gtp, dcv0, dcv1, dcv4, dcv6, dcv7, gt1, Heap.lt gt1, gtA, Heap.lt gtA, gtB, Heap.lt gtB, xtA.2, xtA.ltT, xtA.leT, dcpA, dcAp, dcpB, dcBp, dcAB, dcBA, gt2, Heap.lt gt2, xt2.2, xt2.ltT, xt2.leT, gt3, Heap.lt gt3, xt3.2, xt3.ltT, xt3.leT, gt4, Heap.lt gt4, xt4.2, xt4.ltT, xt4.leT, gt5, Heap.lt gt5, xt5.2, xt5.ltT, xt5.leT, gt6, Heap.lt gt6, xt6.2, xt6.ltT, xt6.leT, gt7, Heap.lt gt7, xt7.2, xt7.ltT, xt7.leT, gt8, Heap.lt gt8, xt8.2, xt8.ltT, xt8.leT, gt9, Heap.lt gt9, gtC, Heap.lt gtC, gtD, Heap.lt gtD])) | ((refine Ext.then1 (by assumption) ?_ ?_); rotate_left; · (intro p hp _; first | assumption | exact List.mem_cons_of_mem _ hp | (cases hp; done) | (simp at hp; subst hp; simp))))
    refine xtA.then (((((((a2.trans a3).trans a4).trans a5).trans a6).trans a7).trans a8).trans a9) (fun r hr hlr => ?_)
    simp at hr ⊢
    rcases hr with rfl | rfl
    · omega
    · rfl
  have e0 : oA l 0 = ⟨[[.sc (.int .i64 (vl l 0)), .sc (.int .i64 (vl l 1)), .sc (.int .u64 (vl l 5)), .sc (.int .i64 (vl l 6)), .sc (.int .u32 (vl l 7)), .sc (.int .i64 (vl l 4)), .sc (.bool (vl l 2 == 1)), .sc (.int .u64 0), .sc (.int .u64 0), .sc (.int .u64 0), .sc (.int .u64 0), .sc (.int .u64 0), .sc (.int .u64 0), .sc (.int .u64 0), .sc (.int .u64 0)]], 40, true⟩ := rfl
  rw [e0] at gt9 gtC gtD xtD
  rw [← e0] at gtC
  clear gtA gtB gt1 gt2 gt3 gt4 gt5 gt6 gt7 gt8 xt2 xt3 xt4 xt5 xt6 xt7 xt8 xtA
  repeat (first | (with_reducible refine AW.seq ?_) | (with_reducible refine AW.block ?_) | (with_reducible refine AW.skip ?_) | (with_reducible refine AW.ret ?_) | (with_reducible refine AW.exit ?_) | (with_reducible refine AW.reg hT ?_) | ((with_reducible show AW _ (.region 16 _ _) _ _ _); (with_reducible refine AW.drawn (id := 16) hT [0,1,2,3,4,5,6,7,8,9,10,11,12,13,14,15,16,17] [[],[],[1],[1,2],[1,2,3],[1,2,3,4],[1,2,3,4,5],[1,2,3,4,5,6],[1,2,3,4,5,6,7],[1,2,3,4,5,6,7,8],[1,2,3,4,5,6,7,8,9],[1,2,3,4,5,6,7,8,9,10],[1,2,3,4,5,6,7,8,9,10,11],[1,2,3,4,5,6,7,8,9,10,11,12],[1,2,3,4,5,6,7,8,9,10,11,12,13],[1,2,3,4,5,6,7,8,9,10,11,12,13,14],[0,1,2,3,4,5,6,7,8,9,10,11,12,13,14],[0,1,2,3,4,5,6,7,8,9,10,11,12,13,14,15,16]] mix (by kernel_rfl) ?_)) | ((with_reducible show DLeft _ _ _ _ (_ :: _) _ _ _ _); (with_reducible apply DLeft.step hT); (case hoi => ((simp only [List.getElem?_toArray,List.getElem?_cons_zero,List.getElem?_cons_succ]); with_reducible rfl)); (case hg => rfl); (case hk => rfl); (case hr => ((try simp (maxSteps := 3000000) (maxDischargeDepth := 12) only [push_cast,appendX,reduceIte,reduceCtorEq,Nat.reduceSub,Nat.reduceAdd,Nat.reduceMul,Nat.reduceLT,Nat.reduceLeDiff,Nat.reduceEqDiff,Nat.reduceBEq,Int.reduceToNat,Int.reduceLT,Int.reduceLE,Int.reduceEq,Int.reduceNeg,Try.results41,gtp,Heap.lt gtp,dcv0,dcv1,dcv4,dcv6,dcv7,dcpA,dcAp,dcpB,dcBp,dcAB,dcBA,gt9,Heap.lt gt9,gtC,Heap.lt gtC,gtD,Heap.lt gtD,xtD.2,xtD.ltT,xtD.leT]); with_reducible rfl))) | ((with_reducible refine AW.cond_true ?_ ?_); · rfl) | ((with_reducible refine AW.cond_false ?_ ?_); · rfl) | simp (maxSteps := 3000000) (maxDischargeDepth := 12) only [push_cast,appendX,reduceIte,reduceCtorEq,Nat.reduceSub,Nat.reduceAdd,Nat.reduceMul,Nat.reduceLT,Nat.reduceLeDiff,Nat.reduceEqDiff,Nat.reduceBEq,Int.reduceToNat,Int.reduceLT,Int.reduceLE,Int.reduceEq,Int.reduceNeg,Try.results41,gtp,Heap.lt gtp,dcv0,dcv1,dcv4,dcv6,dcv7,dcpA,dcAp,dcpB,dcBp,dcAB,dcBA,gt9,Heap.lt gt9,gtC,Heap.lt gtC,gtD,Heap.lt gtD,xtD.2,xtD.ltT,xtD.leT])
  refine AW.loop (oneI l p q2 q4 σ) (m := 9) ⟨0, 0, rfl, by omega, rfl, gt9, gtC, gtD, xtD, by (simp only [push_cast, TellsL, tells_any, tells_refl])⟩ ?_
  clear gt9 gtC gtD xtD e0
  rintro m ts σ3 ⟨k, z, rfl, hk, hz, gtp, gt4, gt2, xt3, hts⟩
  refine AW.told hts ?_
  clear hts
  have dcu8 : ((1 : Int) + 1 + 1 + 1 + 1 + 1 + 1 + 1) = 8 := by decide
  by_cases h8 : k = 8
  · subst h8
    have dcz : decide (z < 8) = false := by simp; omega
    have e8 : eA (rdA l 8) = [.sc (.int .i64 (vl l 0)), .sc (.int .i64 (vl l 1)), .sc (.int .u64 (vl l 5)), .sc (.int .i64 (vl l 6)), .sc (.int .u32 (vl l 7)), .sc (.int .i64 (vl l 4)), .sc (.bool (vl l 2 == 1)), .sc (.int .u64 (vl l 8)), .sc (.int .u64 (vl l 9)), .sc (.int .u64 (vl l 10)), .sc (.int .u64 (vl l 11)), .sc (.int .u64 (vl l 12)), .sc (.int .u64 (vl l 13)), .sc (.int .u64 (vl l 14)), .sc (.int .u64 (vl l 15))] := rfl
    have hmay : ∀ σ', _ := fun σ' => pmay_ok σ' (rdA l 8) (wA_rdA ho)
    unfold oA at gt4
    simp only [oZ, eA_eq] at gt2
    rw [e8] at gt4 hmay ⊢
    have hlt2 := Heap.lt gt2
    have hxt6 : ∀ o, Ext [p] σ (σ3.set q2 o) := fun o => xt3.then (Y := [q2]) (by repeat (first | exact Ext.refl _ _ | assumption | refine Ext.push ?_ _ | ((refine Ext.set ?_ ?_ _); rotate_left; · (simp (maxSteps := 3000000) (maxDischargeDepth := 12) only [push_cast, appendX, Nat.reduceAdd, Nat.reduceEqDiff, Nat.reduceLT, Nat.reduceLeDiff, reduceIte, reduceCtorEq, gtp, Heap.lt gtp, dcv0, dcv1, dcv4, dcv6, dcv7, dcpA, dcAp, dcpB, dcBp, dcAB, dcBA, gt4, Heap.lt gt4, gt2, Heap.lt gt2, xt3.2, xt3.ltT, xt3.leT, dcu8, dcz])) | ((refine Ext.then1 (by assumption) ?_ ?_); rotate_left; · (intro p hp _; first | assumption | exact List.mem_cons_of_mem _ hp | (cases hp; done) | (simp at hp; subst hp; simp))))) (by intro r hr hl; simp at hr; omega)
    have hokd : okR l = (vl l 2 ≤ 1 ∧ vl l 3 = 0 ∧ (st l 16).2 = 0 ∧ mayA (rdA l 8)) := rfl
    by_cases c2 : vl l 2 ≤ 1
    · have dc2 : decide (vl l 2 ≤ 1) = true := decide_eq_true c2
      by_cases c3 : vl l 3 = 0
      · have dc3 : (vl l 3 == 0) = true := by simpa using c3
        repeat (first | (with_reducible refine AW.seq ?_) | (with_reducible refine AW.block ?_) | (with_reducible refine AW.skip ?_) | (with_reducible refine AW.ret ?_) | (with_reducible refine AW.exit ?_) | (with_reducible refine AW.reg hT ?_) | ((with_reducible show AW _ (.region 16 _ _) _ _ _); (with_reducible refine AW.drawn (id := 16) hT [0,1,2,3,4,5,6,7,8,9,10,11,12,13,14,15,16,17] [[],[],[1],[1,2],[1,2,3],[1,2,3,4],[1,2,3,4,5],[1,2,3,4,5,6],[1,2,3,4,5,6,7],[1,2,3,4,5,6,7,8],[1,2,3,4,5,6,7,8,9],[1,2,3,4,5,6,7,8,9,10],[1,2,3,4,5,6,7,8,9,10,11],[1,2,3,4,5,6,7,8,9,10,11,12],[1,2,3,4,5,6,7,8,9,10,11,12,13],[1,2,3,4,5,6,7,8,9,10,11,12,13,14],[0,1,2,3,4,5,6,7,8,9,10,11,12,13,14],[0,1,2,3,4,5,6,7,8,9,10,11,12,13,14,15,16]] mix (by kernel_rfl) ?_)) | ((with_reducible show DLeft _ _ _ _ (_ :: _) _ _ _ _); (with_reducible apply DLeft.step hT); (case hoi => ((simp only [List.getElem?_toArray,List.getElem?_cons_zero,List.getElem?_cons_succ]); with_reducible rfl)); (case hg => rfl); (case hk => rfl); (case hr => ((try simp (maxSteps := 3000000) (maxDischargeDepth := 12) only [push_cast,appendX,reduceIte,reduceCtorEq,Nat.reduceSub,Nat.reduceAdd,Nat.reduceMul,Nat.reduceLT,Nat.reduceLeDiff,Nat.reduceEqDiff,Nat.reduceBEq,Int.reduceToNat,Int.reduceLT,Int.reduceLE,Int.reduceEq,Int.reduceNeg,Try.results41,gtp,Heap.lt gtp,dcv0,dcv1,dcv4,dcv6,dcv7,dcpA,dcAp,dcpB,dcBp,dcAB,dcBA,gt4,Heap.lt gt4,gt2,Heap.lt gt2,xt3.2,xt3.ltT,xt3.leT,dcu8,dcz,dc2,dc3]); with_reducible rfl))) | ((with_reducible refine AW.cond_true ?_ ?_); · rfl) | ((with_reducible refine AW.cond_false ?_ ?_); · rfl) | simp (maxSteps := 3000000) (maxDischargeDepth := 12) only [push_cast,appendX,reduceIte,reduceCtorEq,Nat.reduceSub,Nat.reduceAdd,Nat.reduceMul,Nat.reduceLT,Nat.reduceLeDiff,Nat.reduceEqDiff,Nat.reduceBEq,Int.reduceToNat,Int.reduceLT,Int.reduceLE,Int.reduceEq,Int.reduceNeg,Try.results41,gtp,Heap.lt gtp,dcv0,dcv1,dcv4,dcv6,dcv7,dcpA,dcAp,dcpB,dcBp,dcAB,dcBA,gt4,Heap.lt gt4,gt2,Heap.lt gt2,xt3.2,xt3.ltT,xt3.leT,dcu8,dcz,dc2,dc3])
        ((apply DLeft.call (f := 46) (first := []) (cap := [])); (case hoi => ((simp only [List.getElem?_toArray, List.getElem?_cons_zero, List.getElem?_cons_succ]); with_reducible rfl)); (case hg => rfl); (case ho => rfl); (case hc => rfl); (case hf => exact fn46); (case has => rfl)); refine ACalls.mono (err_ok _ gtp) ?_
        rintro y s5 ⟨rfl, rfl⟩
        have hst : st l (8 + 8) = st l 16 := rfl
        rw [hst] at gtp ⊢
        by_cases c4 : (st l 16).2 = 0
        · have dc4 : ((st l 16).2 == 0) = true := by simpa using c4
          have hyes : decide (okR l) = decide (mayA (rdA l 8)) := by
            simp [okR, c2, c3, c4]
          repeat (first | (with_reducible refine AW.seq ?_) | (with_reducible refine AW.block ?_) | (with_reducible refine AW.skip ?_) | (with_reducible refine AW.ret ?_) | (with_reducible refine AW.exit ?_) | (with_reducible refine AW.reg hT ?_) | ((with_reducible show AW _ (.region 16 _ _) _ _ _); (with_reducible refine AW.drawn (id := 16) hT [0,1,2,3,4,5,6,7,8,9,10,11,12,13,14,15,16,17] [[],[],[1],[1,2],[1,2,3],[1,2,3,4],[1,2,3,4,5],[1,2,3,4,5,6],[1,2,3,4,5,6,7],[1,2,3,4,5,6,7,8],[1,2,3,4,5,6,7,8,9],[1,2,3,4,5,6,7,8,9,10],[1,2,3,4,5,6,7,8,9,10,11],[1,2,3,4,5,6,7,8,9,10,11,12],[1,2,3,4,5,6,7,8,9,10,11,12,13],[1,2,3,4,5,6,7,8,9,10,11,12,13,14],[0,1,2,3,4,5,6,7,8,9,10,11,12,13,14],[0,1,2,3,4,5,6,7,8,9,10,11,12,13,14,15,16]] mix (by kernel_rfl) ?_)) | ((with_reducible show DLeft _ _ _ _ (_ :: _) _ _ _ _); (with_reducible apply DLeft.step hT); (case hoi => ((simp only [List.getElem?_toArray,List.getElem?_cons_zero,List.getElem?_cons_succ]); with_reducible rfl)); (case hg => rfl); (case hk => rfl); (case hr => ((try simp (maxSteps := 3000000) (maxDischargeDepth := 12) only [push_cast,appendX,reduceIte,reduceCtorEq,Nat.reduceSub,Nat.reduceAdd,Nat.reduceMul,Nat.reduceLT,Nat.reduceLeDiff,Nat.reduceEqDiff,Nat.reduceBEq,Int.reduceToNat,Int.reduceLT,Int.reduceLE,Int.reduceEq,Int.reduceNeg,Try.results41,gtp,Heap.lt gtp,dcv0,dcv1,dcv4,dcv6,dcv7,dcpA,dcAp,dcpB,dcBp,dcAB,dcBA,gt4,Heap.lt gt4,gt2,Heap.lt gt2,xt3.2,xt3.ltT,xt3.leT,dcu8,dcz,dc2,dc3,dc4]); with_reducible rfl))) | ((with_reducible refine AW.cond_true ?_ ?_); · rfl) | ((with_reducible refine AW.cond_false ?_ ?_); · rfl) | simp (maxSteps := 3000000) (maxDischargeDepth := 12) only [push_cast,appendX,reduceIte,reduceCtorEq,Nat.reduceSub,Nat.reduceAdd,Nat.reduceMul,Nat.reduceLT,Nat.reduceLeDiff,Nat.reduceEqDiff,Nat.reduceBEq,Int.reduceToNat,Int.reduceLT,Int.reduceLE,Int.reduceEq,Int.reduceNeg,Try.results41,gtp,Heap.lt gtp,dcv0,dcv1,dcv4,dcv6,dcv7,dcpA,dcAp,dcpB,dcBp,dcAB,dcBA,gt4,Heap.lt gt4,gt2,Heap.lt gt2,xt3.2,xt3.ltT,xt3.leT,dcu8,dcz,dc2,dc3,dc4])
          ((apply DLeft.call (f := 20) (first := []) (cap := [])); (case hoi => ((simp only [List.getElem?_toArray, List.getElem?_cons_zero, List.getElem?_cons_succ]); with_reducible rfl)); (case hg => rfl); (case ho => rfl); (case hc => rfl); (case hf => exact fn20); (case has => rfl)); refine ACalls.mono (hmay _) ?_
          rintro y s6 ⟨rfl, xt7⟩
          have gt7 := xt7.get gtp (by simp)
          have gt8 := xt7.get gt2 (by simp)
          have gt9 := xt7.get gt4 (by simp)
          have hxt8 : ∀ o, Ext [p] σ (s6.set q2 o) := fun o => (xt3.then xt7 (by simp)).then (Y := [q2]) (by repeat (first | exact Ext.refl _ _ | assumption | refine Ext.push ?_ _ | ((refine Ext.set ?_ ?_ _); rotate_left; · (simp (maxSteps := 3000000) (maxDischargeDepth := 12) only [push_cast, appendX, Nat.reduceAdd, Nat.reduceEqDiff, Nat.reduceLT, Nat.reduceLeDiff, reduceIte, reduceCtorEq, gtp, Heap.lt gtp, dcv0, dcv1, dcv4, dcv6, dcv7, dcpA, dcAp, dcpB, dcBp, dcAB, dcBA, gt4, Heap.lt gt4, gt2, Heap.lt gt2, xt3.2, xt3.ltT, xt3.leT, dcu8, dcz, dc2, dc3, dc4, xt7.2, xt7.ltT, xt7.leT, gt7, Heap.lt gt7, gt8, Heap.lt gt8, gt9, Heap.lt gt9])) | ((refine Ext.then1 (by assumption) ?_ ?_); rotate_left; · (intro p hp _; first | assumption | exact List.mem_cons_of_mem _ hp | (cases hp; done) | (simp at hp; subst hp; simp))))) (by intro r hr hl; simp at hr; omega)
          repeat (first | (with_reducible refine AW.seq ?_) | (with_reducible refine AW.block ?_) | (with_reducible refine AW.skip ?_) | (with_reducible refine AW.ret ?_) | (with_reducible refine AW.exit ?_) | (with_reducible refine AW.reg hT ?_) | ((with_reducible show AW _ (.region 16 _ _) _ _ _); (with_reducible refine AW.drawn (id := 16) hT [0,1,2,3,4,5,6,7,8,9,10,11,12,13,14,15,16,17] [[],[],[1],[1,2],[1,2,3],[1,2,3,4],[1,2,3,4,5],[1,2,3,4,5,6],[1,2,3,4,5,6,7],[1,2,3,4,5,6,7,8],[1,2,3,4,5,6,7,8,9],[1,2,3,4,5,6,7,8,9,10],[1,2,3,4,5,6,7,8,9,10,11],[1,2,3,4,5,6,7,8,9,10,11,12],[1,2,3,4,5,6,7,8,9,10,11,12,13],[1,2,3,4,5,6,7,8,9,10,11,12,13,14],[0,1,2,3,4,5,6,7,8,9,10,11,12,13,14],[0,1,2,3,4,5,6,7,8,9,10,11,12,13,14,15,16]] mix (by kernel_rfl) ?_)) | ((with_reducible show DLeft _ _ _ _ (_ :: _) _ _ _ _); (with_reducible apply DLeft.step hT); (case hoi => ((simp only [List.getElem?_toArray,List.getElem?_cons_zero,List.getElem?_cons_succ]); with_reducible rfl)); (case hg => rfl); (case hk => rfl); (case hr => ((try simp (maxSteps := 3000000) (maxDischargeDepth := 12) only [push_cast,appendX,reduceIte,reduceCtorEq,Nat.reduceSub,Nat.reduceAdd,Nat.reduceMul,Nat.reduceLT,Nat.reduceLeDiff,Nat.reduceEqDiff,Nat.reduceBEq,Int.reduceToNat,Int.reduceLT,Int.reduceLE,Int.reduceEq,Int.reduceNeg,Try.results41,gtp,Heap.lt gtp,dcv0,dcv1,dcv4,dcv6,dcv7,dcpA,dcAp,dcpB,dcBp,dcAB,dcBA,gt4,Heap.lt gt4,gt2,Heap.lt gt2,xt3.2,xt3.ltT,xt3.leT,dcu8,dcz,dc2,dc3,dc4,xt7.2,xt7.ltT,xt7.leT,gt7,Heap.lt gt7,gt8,Heap.lt gt8,gt9,Heap.lt gt9]); with_reducible rfl))) | ((with_reducible refine AW.cond_true ?_ ?_); · rfl) | ((with_reducible refine AW.cond_false ?_ ?_); · rfl) | simp (maxSteps := 3000000) (maxDischargeDepth := 12) only [push_cast,appendX,reduceIte,reduceCtorEq,Nat.reduceSub,Nat.reduceAdd,Nat.reduceMul,Nat.reduceLT,Nat.reduceLeDiff,Nat.reduceEqDiff,Nat.reduceBEq,Int.reduceToNat,Int.reduceLT,Int.reduceLE,Int.reduceEq,Int.reduceNeg,Try.results41,gtp,Heap.lt gtp,dcv0,dcv1,dcv4,dcv6,dcv7,dcpA,dcAp,dcpB,dcBp,dcAB,dcBA,gt4,Heap.lt gt4,gt2,Heap.lt gt2,xt3.2,xt3.ltT,xt3.leT,dcu8,dcz,dc2,dc3,dc4,xt7.2,xt7.ltT,xt7.leT,gt7,Heap.lt gt7,gt8,Heap.lt gt8,gt9,Heap.lt gt9])
          rw [hyes]
          first | exact ⟨rfl, hxt8 _⟩ | exact ⟨rfl, by rw [Heap.get_set_ne (Ne.symm hpB)]; exact gt7, hxt8 _⟩
        · have dc4 : ((st l 16).2 == 0) = false := by simpa using c4
          have hno : decide (okR l) = false := decide_eq_false (fun h => c4 h.2.2.1)
          repeat (first | (with_reducible refine AW.seq ?_) | (with_reducible refine AW.block ?_) | (with_reducible refine AW.skip ?_) | (with_reducible refine AW.ret ?_) | (with_reducible refine AW.exit ?_) | (with_reducible refine AW.reg hT ?_) | ((with_reducible show AW _ (.region 16 _ _) _ _ _); (with_reducible refine AW.drawn (id := 16) hT [0,1,2,3,4,5,6,7,8,9,10,11,12,13,14,15,16,17] [[],[],[1],[1,2],[1,2,3],[1,2,3,4],[1,2,3,4,5],[1,2,3,4,5,6],[1,2,3,4,5,6,7],[1,2,3,4,5,6,7,8],[1,2,3,4,5,6,7,8,9],[1,2,3,4,5,6,7,8,9,10],[1,2,3,4,5,6,7,8,9,10,11],[1,2,3,4,5,6,7,8,9,10,11,12],[1,2,3,4,5,6,7,8,9,10,11,12,13],[1,2,3,4,5,6,7,8,9,10,11,12,13,14],[0,1,2,3,4,5,6,7,8,9,10,11,12,13,14],[0,1,2,3,4,5,6,7,8,9,10,11,12,13,14,15,16]] mix (by kernel_rfl) ?_)) | ((with_reducible show DLeft _ _ _ _ (_ :: _) _ _ _ _); (with_reducible apply DLeft.step hT); (case hoi => ((simp only [List.getElem?_toArray,List.getElem?_cons_zero,List.getElem?_cons_succ]); with_reducible rfl)); (case hg => rfl); (case hk => rfl); (case hr => ((try simp (maxSteps := 3000000) (maxDischargeDepth := 12) only [push_cast,appendX,reduceIte,reduceCtorEq,Nat.reduceSub,Nat.reduceAdd,Nat.reduceMul,Nat.reduceLT,Nat.reduceLeDiff,Nat.reduceEqDiff,Nat.reduceBEq,Int.reduceToNat,Int.reduceLT,Int.reduceLE,Int.reduceEq,Int.reduceNeg,Try.results41,gtp,Heap.lt gtp,dcv0,dcv1,dcv4,dcv6,dcv7,dcpA,dcAp,dcpB,dcBp,dcAB,dcBA,gt4,Heap.lt gt4,gt2,Heap.lt gt2,xt3.2,xt3.ltT,xt3.leT,dcu8,dcz,dc2,dc3,dc4]); with_reducible rfl))) | ((with_reducible refine AW.cond_true ?_ ?_); · rfl) | ((with_reducible refine AW.cond_false ?_ ?_); · rfl) | simp (maxSteps := 3000000) (maxDischargeDepth := 12) only [push_cast,appendX,reduceIte,reduceCtorEq,Nat.reduceSub,Nat.reduceAdd,Nat.reduceMul,Nat.reduceLT,Nat.reduceLeDiff,Nat.reduceEqDiff,Nat.reduceBEq,Int.reduceToNat,Int.reduceLT,Int.reduceLE,Int.reduceEq,Int.reduceNeg,Try.results41,gtp,Heap.lt gtp,dcv0,dcv1,dcv4,dcv6,dcv7,dcpA,dcAp,dcpB,dcBp,dcAB,dcBA,gt4,Heap.lt gt4,gt2,Heap.lt gt2,xt3.2,xt3.ltT,xt3.leT,dcu8,dcz,dc2,dc3,dc4])
          rw [hno]
          first | exact ⟨rfl, hxt6 _⟩ | exact ⟨rfl, by rw [Heap.get_set_ne (Ne.symm hpB)]; exact gtp, hxt6 _⟩
      · have dc3 : (vl l 3 == 0) = false := by simpa using c3
        have hno : decide (okR l) = false := decide_eq_false (fun h => c3 h.2.1)
        repeat (first | (with_reducible refine AW.seq ?_) | (with_reducible refine AW.block ?_) | (with_reducible refine AW.skip ?_) | (with_reducible refine AW.ret ?_) | (with_reducible refine AW.exit ?_) | (with_reducible refine AW.reg hT ?_) | ((with_reducible show AW _ (.region 16 _ _) _ _ _); (with_reducible refine AW.drawn (id := 16) hT [0,1,2,3,4,5,6,7,8,9,10,11,12,13,14,15,16,17] [[],[],[1],[1,2],[1,2,3],[1,2,3,4],[1,2,3,4,5],[1,2,3,4,5,6],[1,2,3,4,5,6,7],[1,2,3,4,5,6,7,8],[1,2,3,4,5,6,7,8,9],[1,2,3,4,5,6,7,8,9,10],[1,2,3,4,5,6,7,8,9,10,11],[1,2,3,4,5,6,7,8,9,10,11,12],[1,2,3,4,5,6,7,8,9,10,11,12,13],[1,2,3,4,5,6,7,8,9,10,11,12,13,14],[0,1,2,3,4,5,6,7,8,9,10,11,12,13,14],[0,1,2,3,4,5,6,7,8,9,10,11,12,13,14,15,16]] mix (by kernel_rfl) ?_)) | ((with_reducible show DLeft _ _ _ _ (_ :: _) _ _ _ _); (with_reducible apply DLeft.step hT); (case hoi => ((simp only [List.getElem?_toArray,List.getElem?_cons_zero,List.getElem?_cons_succ]); with_reducible rfl)); (case hg => rfl); (case hk => rfl); (case hr => ((try simp (maxSteps := 3000000) (maxDischargeDepth := 12) only [push_cast,appendX,reduceIte,reduceCtorEq,Nat.reduceSub,Nat.reduceAdd,Nat.reduceMul,Nat.reduceLT,Nat.reduceLeDiff,Nat.reduceEqDiff,Nat.reduceBEq,Int.reduceToNat,Int.reduceLT,Int.reduceLE,Int.reduceEq,Int.reduceNeg,Try.results41,gtp,Heap.lt gtp,dcv0,dcv1,dcv4,dcv6,dcv7,dcpA,dcAp,dcpB,dcBp,dcAB,dcBA,gt4,Heap.lt gt4,gt2,Heap.lt gt2,xt3.2,xt3.ltT,xt3.leT,dcu8,dcz,dc2,dc3]); with_reducible rfl))) | ((with_reducible refine AW.cond_true ?_ ?_); · rfl) | ((with_reducible refine AW.cond_false ?_ ?_); · rfl) | simp (maxSteps := 3000000) (maxDischargeDepth := 12) only [push_cast,appendX,reduceIte,reduceCtorEq,Nat.reduceSub,Nat.reduceAdd,Nat.reduceMul,Nat.reduceLT,Nat.reduceLeDiff,Nat.reduceEqDiff,Nat.reduceBEq,Int.reduceToNat,Int.reduceLT,Int.reduceLE,Int.reduceEq,Int.reduceNeg,Try.results41,gtp,Heap.lt gtp,dcv0,dcv1,dcv4,dcv6,dcv7,dcpA,dcAp,dcpB,dcBp,dcAB,dcBA,gt4,Heap.lt gt4,gt2,Heap.lt gt2,xt3.2,xt3.ltT,xt3.leT,dcu8,dcz,dc2,dc3])
        rw [hno]
        first | exact ⟨rfl, hxt6 _⟩ | exact ⟨rfl, by rw [Heap.get_set_ne (Ne.symm hpB)]; exact gtp, hxt6 _⟩
    · have dc2 : decide (vl l 2 ≤ 1) = false := decide_eq_false c2
      have hno : decide (okR l) = false := decide_eq_false (fun h => c2 h.1)
      repeat (first | (with_reducible refine AW.seq ?_) | (with_reducible refine AW.block ?_) | (with_reducible refine AW.skip ?_) | (with_reducible refine AW.ret ?_) | (with_reducible refine AW.exit ?_) | (with_reducible refine AW.reg hT ?_) | ((with_reducible show AW _ (.region 16 _ _) _ _ _); (with_reducible refine AW.drawn (id := 16) hT [0,1,2,3,4,5,6,7,8,9,10,11,12,13,14,15,16,17] [[],[],[1],[1,2],[1,2,3],[1,2,3,4],[1,2,3,4,5],[1,2,3,4,5,6],[1,2,3,4,5,6,7],[1,2,3,4,5,6,7,8],[1,2,3,4,5,6,7,8,9],[1,2,3,4,5,6,7,8,9,10],[1,2,3,4,5,6,7,8,9,10,11],[1,2,3,4,5,6,7,8,9,10,11,12],[1,2,3,4,5,6,7,8,9,10,11,12,13],[1,2,3,4,5,6,7,8,9,10,11,12,13,14],[0,1,2,3,4,5,6,7,8,9,10,11,12,13,14],[0,1,2,3,4,5,6,7,8,9,10,11,12,13,14,15,16]] mix (by kernel_rfl) ?_)) | ((with_reducible show DLeft _ _ _ _ (_ :: _) _ _ _ _); (with_reducible apply DLeft.step hT); (case hoi => ((simp only [List.getElem?_toArray,List.getElem?_cons_zero,List.getElem?_cons_succ]); with_reducible rfl)); (case hg => rfl); (case hk => rfl); (case hr => ((try simp (maxSteps := 3000000) (maxDischargeDepth := 12) only [push_cast,appendX,reduceIte,reduceCtorEq,Nat.reduceSub,Nat.reduceAdd,Nat.reduceMul,Nat.reduceLT,Nat.reduceLeDiff,Nat.reduceEqDiff,Nat.reduceBEq,Int.reduceToNat,Int.reduceLT,Int.reduceLE,Int.reduceEq,Int.reduceNeg,Try.results41,gtp,Heap.lt gtp,dcv0,dcv1,dcv4,dcv6,dcv7,dcpA,dcAp,dcpB,dcBp,dcAB,dcBA,gt4,Heap.lt gt4,gt2,Heap.lt gt2,xt3.2,xt3.ltT,xt3.leT,dcu8,dcz,dc2]); with_reducible rfl))) | ((with_reducible refine AW.cond_true ?_ ?_); · rfl) | ((with_reducible refine AW.cond_false ?_ ?_); · rfl) | simp (maxSteps := 3000000) (maxDischargeDepth := 12) only [push_cast,appendX,reduceIte,reduceCtorEq,Nat.reduceSub,Nat.reduceAdd,Nat.reduceMul,Nat.reduceLT,Nat.reduceLeDiff,Nat.reduceEqDiff,Nat.reduceBEq,Int.reduceToNat,Int.reduceLT,Int.reduceLE,Int.reduceEq,Int.reduceNeg,Try.results41,gtp,Heap.lt gtp,dcv0,dcv1,dcv4,dcv6,dcv7,dcpA,dcAp,dcpB,dcBp,dcAB,dcBA,gt4,Heap.lt gt4,gt2,Heap.lt gt2,xt3.2,xt3.ltT,xt3.leT,dcu8,dcz,dc2])
      rw [hno]
      first | exact ⟨rfl, hxt6 _⟩ | exact ⟨rfl, by rw [Heap.get_set_ne (Ne.symm hpB)]; exact gtp, hxt6 _⟩
  have dcz : decide (z < 8) = true := by simp; omega
  have dcz1 : (z < 8) = True := by simp; omega
  have dcz0 : (0 ≤ z) = True := by simp; omega
  have dczt : z.toNat = k := by omega
  have dcw : IntKind.i64.wrap (z + 1) = z + 1 := wrap_i64 (by omega) (by omega)
  obtain ⟨k', hk'⟩ : ∃ k', k' = k + 1 := ⟨_, rfl⟩
  have hstp : ∀ n : Int, n = wd (k + 8) → ∀ σ', σ'.get p = some (ROb (st l (k + 8)).1 (st l (k + 8)).2) → ACalls Try.prog 45 [.ptr p 0 0 1, .sc (.int .i64 n)] σ' (fun x σ'' => x = .sc (.int .u64 (vl l (k + 8))) ∧ σ''.get p = some (ROb (st l (k' + 8)).1 (st l (k' + 8)).2) ∧ Ext [p] σ' σ'') := fun n hn σ' hg => by
    rw [hk', Nat.add_right_comm]
    exact uint_st σ' (k + 8) n hn hg ho
  have hk8 : k' ≤ 8 := by omega
  have hkm : 9 - k' < 9 - k := by omega
  have hzk : z + 1 = k' := by omega
  clear h8 hb hk
  repeat (first | (with_reducible refine AW.seq ?_) | (with_reducible refine AW.block ?_) | (with_reducible refine AW.skip ?_) | (with_reducible refine AW.ret ?_) | (with_reducible refine AW.exit ?_) | (with_reducible refine AW.reg hT ?_) | ((with_reducible show AW _ (.region 16 _ _) _ _ _); (with_reducible refine AW.drawn (id := 16) hT [0,1,2,3,4,5,6,7,8,9,10,11,12,13,14,15,16,17] [[],[],[1],[1,2],[1,2,3],[1,2,3,4],[1,2,3,4,5],[1,2,3,4,5,6],[1,2,3,4,5,6,7],[1,2,3,4,5,6,7,8],[1,2,3,4,5,6,7,8,9],[1,2,3,4,5,6,7,8,9,10],[1,2,3,4,5,6,7,8,9,10,11],[1,2,3,4,5,6,7,8,9,10,11,12],[1,2,3,4,5,6,7,8,9,10,11,12,13],[1,2,3,4,5,6,7,8,9,10,11,12,13,14],[0,1,2,3,4,5,6,7,8,9,10,11,12,13,14],[0,1,2,3,4,5,6,7,8,9,10,11,12,13,14,15,16]] mix (by kernel_rfl) ?_)) | ((with_reducible show DLeft _ _ _ _ (_ :: _) _ _ _ _); (with_reducible apply DLeft.step hT); (case hoi => ((simp only [List.getElem?_toArray,List.getElem?_cons_zero,List.getElem?_cons_succ]); with_reducible rfl)); (case hg => rfl); (case hk => rfl); (case hr => ((try simp (maxSteps := 3000000) (maxDischargeDepth := 12) only [push_cast,appendX,reduceIte,reduceCtorEq,Nat.reduceSub,Nat.reduceAdd,Nat.reduceMul,Nat.reduceLT,Nat.reduceLeDiff,Nat.reduceEqDiff,Nat.reduceBEq,Int.reduceToNat,Int.reduceLT,Int.reduceLE,Int.reduceEq,Int.reduceNeg,Try.results41,gtp,Heap.lt gtp,dcv0,dcv1,dcv4,dcv6,dcv7,dcpA,dcAp,dcpB,dcBp,dcAB,dcBA,gt4,Heap.lt gt4,gt2,Heap.lt gt2,xt3.2,xt3.ltT,xt3.leT,dcu8,dcz,dcz1,dcz0,dczt,dcw]); with_reducible rfl))) | ((with_reducible refine AW.cond_true ?_ ?_); · rfl) | ((with_reducible refine AW.cond_false ?_ ?_); · rfl) | simp (maxSteps := 3000000) (maxDischargeDepth := 12) only [push_cast,appendX,reduceIte,reduceCtorEq,Nat.reduceSub,Nat.reduceAdd,Nat.reduceMul,Nat.reduceLT,Nat.reduceLeDiff,Nat.reduceEqDiff,Nat.reduceBEq,Int.reduceToNat,Int.reduceLT,Int.reduceLE,Int.reduceEq,Int.reduceNeg,Try.results41,gtp,Heap.lt gtp,dcv0,dcv1,dcv4,dcv6,dcv7,dcpA,dcAp,dcpB,dcBp,dcAB,dcBA,gt4,Heap.lt gt4,gt2,Heap.lt gt2,xt3.2,xt3.ltT,xt3.leT,dcu8,dcz,dcz1,dcz0,dczt,dcw])
  refine AOpsL.call (first := []) (cap := []) hT rfl rfl rfl fn45 rfl (ACalls.mono (hstp 8 (by rfl) _ gtp) ?_)
  rintro y σ4 ⟨rfl, gtp5, xt4⟩
  have gt5 := xt4.get gt4 (by simpa using Ne.symm hpA)
  have gt6 := xt4.get gt2 (by simpa using Ne.symm hpB)
  have hxt5 : Ext [p] σ σ4 := xt3.trans xt4
  have hlt4 := Heap.lt gt5
  have hxt6 : ∀ o, Ext [p] σ (σ4.set q4 o) := fun o => hxt5.then (Y := [q4]) (by repeat (first | exact Ext.refl _ _ | assumption | refine Ext.push ?_ _ | ((refine Ext.set ?_ ?_ _); rotate_left; · (simp (maxSteps := 3000000) (maxDischargeDepth := 12) only [push_cast, appendX, Nat.reduceAdd, Nat.reduceEqDiff, Nat.reduceLT, Nat.reduceLeDiff, reduceIte, reduceCtorEq, gtp, Heap.lt gtp, dcv0, dcv1, dcv4, dcv6, dcv7, dcpA, dcAp, dcpB, dcBp, dcAB, dcBA, gt4, Heap.lt gt4, gt2, Heap.lt gt2, xt3.2, xt3.ltT, xt3.leT, dcu8, dcz, dcz1, dcz0, dczt, dcw, gtp5, Heap.lt gtp5, xt4.2, xt4.ltT, xt4.leT, gt5, Heap.lt gt5, gt6, Heap.lt gt6])) | ((refine Ext.then1 (by assumption) ?_ ?_); rotate_left; · (intro p hp _; first | assumption | exact List.mem_cons_of_mem _ hp | (cases hp; done) | (simp at hp; subst hp; simp))))) (by intro r hr hl; simp at hr; omega)
  clear gt4 gt2 gtp xt3 xt4
  obtain rfl | rfl | rfl | rfl | rfl | rfl | rfl | rfl : k = 0 ∨ k = 1 ∨ k = 2 ∨ k = 3 ∨ k = 4 ∨ k = 5 ∨ k = 6 ∨ k = 7 := by omega
  all_goals
    subst hk'
    simp only [oA, rdA, frw, eA_eq] at gt5
    repeat (first | (with_reducible refine AW.seq ?_) | (with_reducible refine AW.block ?_) | (with_reducible refine AW.skip ?_) | (with_reducible refine AW.ret ?_) | (with_reducible refine AW.exit ?_) | (with_reducible refine AW.reg hT ?_) | ((with_reducible show AW _ (.region 16 _ _) _ _ _); (with_reducible refine AW.drawn (id := 16) hT [0,1,2,3,4,5,6,7,8,9,10,11,12,13,14,15,16,17] [[],[],[1],[1,2],[1,2,3],[1,2,3,4],[1,2,3,4,5],[1,2,3,4,5,6],[1,2,3,4,5,6,7],[1,2,3,4,5,6,7,8],[1,2,3,4,5,6,7,8,9],[1,2,3,4,5,6,7,8,9,10],[1,2,3,4,5,6,7,8,9,10,11],[1,2,3,4,5,6,7,8,9,10,11,12],[1,2,3,4,5,6,7,8,9,10,11,12,13],[1,2,3,4,5,6,7,8,9,10,11,12,13,14],[0,1,2,3,4,5,6,7,8,9,10,11,12,13,14],[0,1,2,3,4,5,6,7,8,9,10,11,12,13,14,15,16]] mix (by kernel_rfl) ?_)) | ((with_reducible show DLeft _ _ _ _ (_ :: _) _ _ _ _); (with_reducible apply DLeft.step hT); (case hoi => ((simp only [List.getElem?_toArray,List.getElem?_cons_zero,List.getElem?_cons_succ]); with_reducible rfl)); (case hg => rfl); (case hk => rfl); (case hr => ((try simp (maxSteps := 3000000) (maxDischargeDepth := 12) only [push_cast,appendX,reduceIte,reduceCtorEq,Nat.reduceSub,Nat.reduceAdd,Nat.reduceMul,Nat.reduceLT,Nat.reduceLeDiff,Nat.reduceEqDiff,Nat.reduceBEq,Int.reduceToNat,Int.reduceLT,Int.reduceLE,Int.reduceEq,Int.reduceNeg,Try.results41,dcv0,dcv1,dcv4,dcv6,dcv7,dcpA,dcAp,dcpB,dcBp,dcAB,dcBA,dcu8,dcz,dcz1,dcz0,dczt,dcw,gtp5,Heap.lt gtp5,gt5,Heap.lt gt5,gt6,Heap.lt gt6]); with_reducible rfl))) | ((with_reducible refine AW.cond_true ?_ ?_); · rfl) | ((with_reducible refine AW.cond_false ?_ ?_); · rfl) | simp (maxSteps := 3000000) (maxDischargeDepth := 12) only [push_cast,appendX,reduceIte,reduceCtorEq,Nat.reduceSub,Nat.reduceAdd,Nat.reduceMul,Nat.reduceLT,Nat.reduceLeDiff,Nat.reduceEqDiff,Nat.reduceBEq,Int.reduceToNat,Int.reduceLT,Int.reduceLE,Int.reduceEq,Int.reduceNeg,Try.results41,dcv0,dcv1,dcv4,dcv6,dcv7,dcpA,dcAp,dcpB,dcBp,dcAB,dcBA,dcu8,dcz,dcz1,dcz0,dczt,dcw,gtp5,Heap.lt gtp5,gt5,Heap.lt gt5,gt6,Heap.lt gt6])
    exact ⟨_, hkm, _, z + 1, rfl, hk8, hzk, by rw [Heap.get_set_ne (Ne.symm hpA)]; exact gtp5, by rw [Heap.get_set hlt4]; rfl, by rw [Heap.get_set_ne (Ne.symm hAB)]; exact gt6, hxt6 _, by (simp only [push_cast, TellsL, tells_any, tells_refl])⟩
end Go.Proofs.Ytkcccomdamdocaa.Cm
