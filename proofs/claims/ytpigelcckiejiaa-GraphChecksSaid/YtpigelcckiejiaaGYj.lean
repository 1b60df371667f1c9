/- slices.Compact at ints. graph.Near; GraphNear. -/
import Derived.Test.YtpigelcckiejiaaCmSort
import Derived.Test.YtpigelcckiejiaaGYf
namespace Go.Proofs.Ytpigelcckiejiaa.Cm
open Go.RowKit
set_option linter.unusedVariables false
set_option linter.unusedSimpArgs false
set_option maxRecDepth 20000
set_option maxHeartbeats 8000000
/-- The first i numbers, without those that stand behind their like. -/
def dq (s : List Int) : Nat → List Int
  | 0 => []
  | i + 1 => dq s i ++ (match s[i]? with | some x => if i ≠ 0 ∧ s[i - 1]? = some x then [] else [x] | none => [])
theorem dq_len (s : List Int) : ∀ i, (dq s i).length ≤ i
  | 0 => by simp [dq]
  | i + 1 => by
    have := dq_len s i
    rw [dq, List.length_append]
    split
    · split <;> simp <;> omega
    · simp; omega
theorem dq_same (s : List Int) : ∀ i, i ≤ s.length → (∀ j, 1 ≤ j → j < i → s[j]? ≠ s[j - 1]?) → dq s i = s.take i
  | 0, _, _ => rfl
  | i + 1, hi, h => by
    rw [dq, dq_same s i (by omega) (fun j h1 h2 => h j h1 (by omega)), List.take_add_one, List.getElem?_eq_getElem (by omega)]
    simp only [Option.toList_some]
    congr 1
    by_cases h0 : i = 0
    · rw [if_neg (by simp [h0])]
    · have := h i (by omega) (by omega)
      rw [List.getElem?_eq_getElem (by omega)] at this
      rw [if_neg]
      rintro ⟨_, h2⟩
      exact this h2.symm
theorem dq_step_like (s : List Int) (i : Nat) (x : Int) (h : s[i + 1]? = some x) (h2 : s[i]? = some x) : dq s (i + 2) = dq s (i + 1) := by
  rw [dq, h]; simp [h2]
theorem dq_step_new (s : List Int) (i : Nat) (x y : Int) (h : s[i + 1]? = some x) (h2 : s[i]? = some y) (hne : x ≠ y) : dq s (i + 2) = dq s (i + 1) ++ [x] := by
  have hne' : ¬ y = x := fun e => hne e.symm
  rw [dq, h]; simp [h2, hne']
def cpI (s : List Int) (C : List (List DV)) (t n m0 : Nat) (σ0 : Heap) (m : Nat) (ts : List DV) (σ : Heap) : Prop := ∃ k, m = s.length + 1 - k ∧ 1 ≤ k ∧ k ≤ s.length ∧ (∀ j, 1 ≤ j → j < k → s[j]? ≠ s[j - 1]?) ∧ σ = σ0 ∧ TellsL ts (.sl t 0 n m0 :: .any :: .any :: .sc (.int .i64 k) :: .any :: .any :: .any :: .any :: .any :: .any :: .any :: .any :: .any :: .any :: .any :: .any :: .any :: .any :: .any :: .any :: .any :: .any :: .any :: .any :: .any :: .any :: .any :: .any :: .any :: .any :: .any :: .any :: .any :: .any :: .any :: .any :: .any :: .any :: .any :: .any :: .any :: .any :: .any :: .any :: .any :: .any :: .any :: .any :: .any :: .any :: .any :: .any :: .any :: .any :: .any :: .any :: .any :: .any :: .any :: .any :: .any :: [])
def cpJ (s : List Int) (C : List (List DV)) (k0 l2 t n m0 : Nat) (σ0 : Heap) (m : Nat) (ts : List DV) (σ : Heap) : Prop := ∃ (k k2 : Nat) (R : List Int), m = l2 + 1 - k2 ∧ 1 ≤ k2 ∧ k2 ≤ l2 ∧ k = (dq s (k0 + k2)).length ∧ k < k0 + k2 ∧ (dq s (k0 + k2)).length + R.length = s.length ∧ (∀ i, k0 + k2 ≤ i + 1 → (dq s (k0 + k2) ++ R)[i]? = s[i]?) ∧ σ.get t = some ⟨(dq s (k0 + k2) ++ R).map eZ' ++ C, 3, true⟩ ∧ Ext [t] σ0 σ ∧ TellsL ts (.sl t 0 n m0 :: .any :: .any :: .sc (.int .i64 k) :: .sl t k0 l2 m0 :: .sc (.int .i64 k2) :: .any :: .any :: .any :: .any :: .any :: .any :: .any :: .any :: .any :: .any :: .any :: .any :: .any :: .any :: .any :: .any :: .any :: .any :: .any :: .any :: .any :: .any :: .any :: .any :: .any :: .any :: .any :: .any :: .any :: .any :: .any :: .any :: .any :: .any :: .any :: .any :: .any :: .any :: .any :: .any :: .any :: .any :: .any :: .any :: .any :: .any :: .any :: .any :: .any :: .any :: .any :: .any :: .any :: .any :: .any :: [])
theorem compact_ok (σ : Heap) {t : Nat} (s : List Int) (C : List (List DV)) (n m0 : Nat) (hn : n = s.length) (hm : m0 = s.length + C.length) (gt : σ.get t = some ⟨s.map eZ' ++ C, 3, true⟩) (hb : n ≤ 1000000) :
    ACalls Try.prog 33 [.sl t 0 n m0] σ (fun y σ' => ∃ C', y = .sl t 0 (dq s s.length).length m0 ∧ (dq s s.length).length + C'.length = m0 ∧ σ'.get t = some ⟨(dq s s.length).map eZ' ++ C', 3, true⟩ ∧ Ext [t] σ σ') := by
  have dcfl0 : (s.map eZ' ++ C).length = m0 := by simp [hm]
  refine ACalls.code hT Try.func33 rfl ?_
  simp only [Try.ntmps33, List.length_cons, List.length_nil, Nat.reduceSub, Nat.reduceAdd, List.replicate, List.cons_append, List.nil_append]
  repeat (first | (with_reducible refine AW.seq ?_) | (with_reducible refine AW.block ?_) | (with_reducible refine AW.skip ?_) | (with_reducible refine AW.ret ?_) | (with_reducible refine AW.exit ?_) | (with_reducible refine AW.reg hT ?_) | ((with_reducible show AW _ (.region 6 _ _) _ _ _); (with_reducible refine AW.drawn (id := 6) hT [0,1,2,3,4,5,6,7,8,9] [[],[],[0,1],[0,1,2],[],[],[5],[4,5,6],[4,5,6,7],[0,1,2,3,4,5,6,7,8]] mix (by kernel_rfl) ?_)) | ((with_reducible show AW _ (.region 11 _ _) _ _ _); (with_reducible refine AW.drawn (id := 11) hT [0,1,2,3,4,5,6,7,8,9] [[],[],[0,1],[0,1,2],[],[],[5],[4,5,6],[4,5,6,7],[0,1,2,3,4,5,6,7,8]] mix (by kernel_rfl) ?_)) | ((with_reducible show DLeft _ _ _ _ (_ :: _) _ _ _ _); (with_reducible apply DLeft.step hT); (case hoi => ((simp only [List.getElem?_toArray,List.getElem?_cons_zero,List.getElem?_cons_succ]); with_reducible rfl)); (case hg => rfl); (case hk => rfl); (case hr => ((try simp (maxSteps := 3000000) (maxDischargeDepth := 12) only [push_cast,appendX,reduceIte,reduceCtorEq,Nat.reduceSub,Nat.reduceAdd,Nat.reduceMul,Nat.reduceLT,Nat.reduceLeDiff,Nat.reduceEqDiff,Nat.reduceBEq,Int.reduceToNat,Int.reduceLT,Int.reduceLE,Int.reduceEq,Int.reduceNeg,Try.results33,gt,Heap.lt gt,dcfl0]); with_reducible rfl))) | ((with_reducible refine AW.cond_true ?_ ?_); · rfl) | ((with_reducible refine AW.cond_false ?_ ?_); · rfl) | simp (maxSteps := 3000000) (maxDischargeDepth := 12) only [push_cast,appendX,reduceIte,reduceCtorEq,Nat.reduceSub,Nat.reduceAdd,Nat.reduceMul,Nat.reduceLT,Nat.reduceLeDiff,Nat.reduceEqDiff,Nat.reduceBEq,Int.reduceToNat,Int.reduceLT,Int.reduceLE,Int.reduceEq,Int.reduceNeg,Try.results33,gt,Heap.lt gt,dcfl0])
  by_cases h2 : n < 2
  · have dc2 : decide ((n : Int) < 2) = true := decide_eq_true (by omega)
    have hd : dq s s.length = s := by rw [dq_same s _ (Nat.le_refl _) (fun j h1 h2 => by omega), List.take_length]
    repeat (first | (with_reducible refine AW.seq ?_) | (with_reducible refine AW.block ?_) | (with_reducible refine AW.skip ?_) | (with_reducible refine AW.ret ?_) | (with_reducible refine AW.exit ?_) | (with_reducible refine AW.reg hT ?_) | ((with_reducible show AW _ (.region 6 _ _) _ _ _); (with_reducible refine AW.drawn (id := 6) hT [0,1,2,3,4,5,6,7,8,9] [[],[],[0,1],[0,1,2],[],[],[5],[4,5,6],[4,5,6,7],[0,1,2,3,4,5,6,7,8]] mix (by kernel_rfl) ?_)) | ((with_reducible show AW _ (.region 11 _ _) _ _ _); (with_reducible refine AW.drawn (id := 11) hT [0,1,2,3,4,5,6,7,8,9] [[],[],[0,1],[0,1,2],[],[],[5],[4,5,6],[4,5,6,7],[0,1,2,3,4,5,6,7,8]] mix (by kernel_rfl) ?_)) | ((with_reducible show DLeft _ _ _ _ (_ :: _) _ _ _ _); (with_reducible apply DLeft.step hT); (case hoi => ((simp only [List.getElem?_toArray,List.getElem?_cons_zero,List.getElem?_cons_succ]); with_reducible rfl)); (case hg => rfl); (case hk => rfl); (case hr => ((try simp (maxSteps := 3000000) (maxDischargeDepth := 12) only [push_cast,appendX,reduceIte,reduceCtorEq,Nat.reduceSub,Nat.reduceAdd,Nat.reduceMul,Nat.reduceLT,Nat.reduceLeDiff,Nat.reduceEqDiff,Nat.reduceBEq,Int.reduceToNat,Int.reduceLT,Int.reduceLE,Int.reduceEq,Int.reduceNeg,Try.results33,gt,Heap.lt gt,dcfl0,dc2]); with_reducible rfl))) | ((with_reducible refine AW.cond_true ?_ ?_); · rfl) | ((with_reducible refine AW.cond_false ?_ ?_); · rfl) | simp (maxSteps := 3000000) (maxDischargeDepth := 12) only [push_cast,appendX,reduceIte,reduceCtorEq,Nat.reduceSub,Nat.reduceAdd,Nat.reduceMul,Nat.reduceLT,Nat.reduceLeDiff,Nat.reduceEqDiff,Nat.reduceBEq,Int.reduceToNat,Int.reduceLT,Int.reduceLE,Int.reduceEq,Int.reduceNeg,Try.results33,gt,Heap.lt gt,dcfl0,dc2])
    exact ⟨C, by rw [hd, hn], by rw [hd, hm], by first | (rw [hd]; exact gt) | rw [hd], Ext.refl _ _⟩
  have dc2 : decide ((n : Int) < 2) = false := decide_eq_false (by omega)
  repeat (first | (with_reducible refine AW.seq ?_) | (with_reducible refine AW.block ?_) | (with_reducible refine AW.skip ?_) | (with_reducible refine AW.ret ?_) | (with_reducible refine AW.exit ?_) | (with_reducible refine AW.reg hT ?_) | ((with_reducible show AW _ (.region 6 _ _) _ _ _); (with_reducible refine AW.drawn (id := 6) hT [0,1,2,3,4,5,6,7,8,9] [[],[],[0,1],[0,1,2],[],[],[5],[4,5,6],[4,5,6,7],[0,1,2,3,4,5,6,7,8]] mix (by kernel_rfl) ?_)) | ((with_reducible show AW _ (.region 11 _ _) _ _ _); (with_reducible refine AW.drawn (id := 11) hT [0,1,2,3,4,5,6,7,8,9] [[],[],[0,1],[0,1,2],[],[],[5],[4,5,6],[4,5,6,7],[0,1,2,3,4,5,6,7,8]] mix (by kernel_rfl) ?_)) | ((with_reducible show DLeft _ _ _ _ (_ :: _) _ _ _ _); (with_reducible apply DLeft.step hT); (case hoi => ((simp only [List.getElem?_toArray,List.getElem?_cons_zero,List.getElem?_cons_succ]); with_reducible rfl)); (case hg => rfl); (case hk => rfl); (case hr => ((try simp (maxSteps := 3000000) (maxDischargeDepth := 12) only [push_cast,appendX,reduceIte,reduceCtorEq,Nat.reduceSub,Nat.reduceAdd,Nat.reduceMul,Nat.reduceLT,Nat.reduceLeDiff,Nat.reduceEqDiff,Nat.reduceBEq,Int.reduceToNat,Int.reduceLT,Int.reduceLE,Int.reduceEq,Int.reduceNeg,Try.results33,gt,Heap.lt gt,dcfl0,dc2]); with_reducible rfl))) | ((with_reducible refine AW.cond_true ?_ ?_); · rfl) | ((with_reducible refine AW.cond_false ?_ ?_); · rfl) | simp (maxSteps := 3000000) (maxDischargeDepth := 12) only [push_cast,appendX,reduceIte,reduceCtorEq,Nat.reduceSub,Nat.reduceAdd,Nat.reduceMul,Nat.reduceLT,Nat.reduceLeDiff,Nat.reduceEqDiff,Nat.reduceBEq,Int.reduceToNat,Int.reduceLT,Int.reduceLE,Int.reduceEq,Int.reduceNeg,Try.results33,gt,Heap.lt gt,dcfl0,dc2])
  refine AW.loop (cpI s C t n m0 σ) (m := s.length) ⟨1, by omega, by omega, by omega, fun j h1 h2 => by omega, rfl, by (simp only [push_cast, TellsL, tells_any, tells_refl])⟩ ?_
  rintro m ts σ3 ⟨k, rfl, hk1, hkl, hno, rfl, hts⟩
  refine AW.told hts ?_
  clear hts
  by_cases hk : k < n
  · have dck : decide ((k : Int) < (n : Int)) = true := decide_eq_true (by omega)
    have dck2 : ((k : Int) < (n : Int)) = True := by simp; omega
    have dck0 : ((0 : Int) ≤ (k : Int)) = True := by simp
    obtain ⟨p, hp⟩ : ∃ p, k = p + 1 := ⟨k - 1, by omega⟩
    have dcwp : IntKind.i64.wrap ((k : Int) - 1) = (p : Int) := by rw [wrap_i64 (by omega) (by omega)]; omega
    have dcp2 : ((p : Int) < (n : Int)) = True := by simp; omega
    have dcp0 : ((0 : Int) ≤ (p : Int)) = True := by simp
    obtain ⟨x, hx⟩ : ∃ x, s[k]? = some x := ⟨_, List.getElem?_eq_getElem (by omega)⟩
    obtain ⟨y, hy⟩ : ∃ y, s[p]? = some y := ⟨_, List.getElem?_eq_getElem (by omega)⟩
    have dcex : (s.map eZ' ++ C)[k]? = some [.sc (.int .i64 x)] := by rw [List.getElem?_append_left (by simp; omega), List.getElem?_map, hx]; rfl
    have dcey : (s.map eZ' ++ C)[p]? = some [.sc (.int .i64 y)] := by rw [List.getElem?_append_left (by simp; omega), List.getElem?_map, hy]; rfl
    by_cases hxy : ¬ x = y
    · have dcq : (x == y) = false := by simp [hxy]
      have dcwk : IntKind.i64.wrap ((k : Int) + 1) = (k : Int) + 1 := wrap_i64 (by omega) (by omega)
      repeat (first | (with_reducible refine AW.seq ?_) | (with_reducible refine AW.block ?_) | (with_reducible refine AW.skip ?_) | (with_reducible refine AW.ret ?_) | (with_reducible refine AW.exit ?_) | (with_reducible refine AW.reg hT ?_) | ((with_reducible show AW _ (.region 6 _ _) _ _ _); (with_reducible refine AW.drawn (id := 6) hT [0,1,2,3,4,5,6,7,8,9] [[],[],[0,1],[0,1,2],[],[],[5],[4,5,6],[4,5,6,7],[0,1,2,3,4,5,6,7,8]] mix (by kernel_rfl) ?_)) | ((with_reducible show AW _ (.region 11 _ _) _ _ _); (with_reducible refine AW.drawn (id := 11) hT [0,1,2,3,4,5,6,7,8,9] [[],[],[0,1],[0,1,2],[],[],[5],[4,5,6],[4,5,6,7],[0,1,2,3,4,5,6,7,8]] mix (by kernel_rfl) ?_)) | ((with_reducible show DLeft _ _ _ _ (_ :: _) _ _ _ _); (with_reducible apply DLeft.step hT); (case hoi => ((simp only [List.getElem?_toArray,List.getElem?_cons_zero,List.getElem?_cons_succ]); with_reducible rfl)); (case hg => rfl); (case hk => rfl); (case hr => ((try simp (maxSteps := 3000000) (maxDischargeDepth := 12) only [push_cast,appendX,reduceIte,reduceCtorEq,Nat.reduceSub,Nat.reduceAdd,Nat.reduceMul,Nat.reduceLT,Nat.reduceLeDiff,Nat.reduceEqDiff,Nat.reduceBEq,Int.reduceToNat,Int.reduceLT,Int.reduceLE,Int.reduceEq,Int.reduceNeg,Try.results33,gt,Heap.lt gt,dcfl0,dc2,dck,dck2,dck0,dcwp,dcp2,dcp0,dcex,dcey,dcq,dcwk]); with_reducible rfl))) | ((with_reducible refine AW.cond_true ?_ ?_); · rfl) | ((with_reducible refine AW.cond_false ?_ ?_); · rfl) | simp (maxSteps := 3000000) (maxDischargeDepth := 12) only [push_cast,appendX,reduceIte,reduceCtorEq,Nat.reduceSub,Nat.reduceAdd,Nat.reduceMul,Nat.reduceLT,Nat.reduceLeDiff,Nat.reduceEqDiff,Nat.reduceBEq,Int.reduceToNat,Int.reduceLT,Int.reduceLE,Int.reduceEq,Int.reduceNeg,Try.results33,gt,Heap.lt gt,dcfl0,dc2,dck,dck2,dck0,dcwp,dcp2,dcp0,dcex,dcey,dcq,dcwk])
      exact ⟨s.length + 1 - (k + 1), by omega, k + 1, rfl, by omega, by omega, fun j h1 h2 => by
        by_cases e : j = k
        · subst e; rw [hx, hp, Nat.add_sub_cancel, hy]; simpa using hxy
        · exact hno j h1 (by omega), rfl, by (simp only [push_cast, TellsL, tells_any, tells_refl])⟩
    · have hxy : x = y := Decidable.not_not.1 hxy
      have dcq : (x == y) = true := by simp [hxy]
      have dckle : ((k : Int) ≤ (n : Int)) = True := by simp; omega
      obtain ⟨l2, hl2⟩ : ∃ l2, n = k + l2 := ⟨n - k, by omega⟩
      have dcl2 : ((n : Int) - (k : Int)).toNat = l2 := by omega
      have hdk : dq s (k + 1) = s.take k := by
        rw [hp, dq_step_like s p x (by rw [← hp]; exact hx) (by rw [hxy]; exact hy), ← hp]
        exact dq_same s k (by omega) hno
      repeat (first | (with_reducible refine AW.seq ?_) | (with_reducible refine AW.block ?_) | (with_reducible refine AW.skip ?_) | (with_reducible refine AW.ret ?_) | (with_reducible refine AW.exit ?_) | (with_reducible refine AW.reg hT ?_) | ((with_reducible show AW _ (.region 6 _ _) _ _ _); (with_reducible refine AW.drawn (id := 6) hT [0,1,2,3,4,5,6,7,8,9] [[],[],[0,1],[0,1,2],[],[],[5],[4,5,6],[4,5,6,7],[0,1,2,3,4,5,6,7,8]] mix (by kernel_rfl) ?_)) | ((with_reducible show AW _ (.region 11 _ _) _ _ _); (with_reducible refine AW.drawn (id := 11) hT [0,1,2,3,4,5,6,7,8,9] [[],[],[0,1],[0,1,2],[],[],[5],[4,5,6],[4,5,6,7],[0,1,2,3,4,5,6,7,8]] mix (by kernel_rfl) ?_)) | ((with_reducible show DLeft _ _ _ _ (_ :: _) _ _ _ _); (with_reducible apply DLeft.step hT); (case hoi => ((simp only [List.getElem?_toArray,List.getElem?_cons_zero,List.getElem?_cons_succ]); with_reducible rfl)); (case hg => rfl); (case hk => rfl); (case hr => ((try simp (maxSteps := 3000000) (maxDischargeDepth := 12) only [push_cast,appendX,reduceIte,reduceCtorEq,Nat.reduceSub,Nat.reduceAdd,Nat.reduceMul,Nat.reduceLT,Nat.reduceLeDiff,Nat.reduceEqDiff,Nat.reduceBEq,Int.reduceToNat,Int.reduceLT,Int.reduceLE,Int.reduceEq,Int.reduceNeg,Try.results33,gt,Heap.lt gt,dcfl0,dc2,dck,dck2,dck0,dcwp,dcp2,dcp0,dcex,dcey,dcq,dckle,dcl2]); with_reducible rfl))) | ((with_reducible refine AW.cond_true ?_ ?_); · rfl) | ((with_reducible refine AW.cond_false ?_ ?_); · rfl) | simp (maxSteps := 3000000) (maxDischargeDepth := 12) only [push_cast,appendX,reduceIte,reduceCtorEq,Nat.reduceSub,Nat.reduceAdd,Nat.reduceMul,Nat.reduceLT,Nat.reduceLeDiff,Nat.reduceEqDiff,Nat.reduceBEq,Int.reduceToNat,Int.reduceLT,Int.reduceLE,Int.reduceEq,Int.reduceNeg,Try.results33,gt,Heap.lt gt,dcfl0,dc2,dck,dck2,dck0,dcwp,dcp2,dcp0,dcex,dcey,dcq,dckle,dcl2])
      refine AW.loop (cpJ s C k l2 t n m0 σ3) (m := l2) ⟨k, 1, s.drop k, by omega, by omega, by omega, by rw [hdk, List.length_take]; omega, by omega, by rw [hdk]; simp; omega, fun i _ => by rw [hdk, List.take_append_drop], by rw [hdk, List.take_append_drop]; exact gt, Ext.refl _ _, by (simp only [push_cast, TellsL, tells_any, tells_refl])⟩ ?_
      clear dcex dcey dcq dckle dcl2 hdk hx hy hxy gt dck dck2 dck0 dcwp dcp2 dcp0
      rintro m ts σ4 ⟨k1, k2, R, rfl, h1, h2l, hk1, hk1l, hDR, hsame, gt4, xt4, hts⟩
      refine AW.told hts ?_
      clear hts
      obtain ⟨D, hD⟩ : ∃ D, D = dq s (k + k2) := ⟨_, rfl⟩
      rw [← hD] at hk1 hDR hsame gt4
      have dcfl : ((D ++ R).map eZ' ++ C).length = m0 := by simp; omega
      have dck1n : ((k1 : Int) < (n : Int)) = True := by simp; omega
      have dck10 : ((0 : Int) ≤ (k1 : Int)) = True := by simp
      by_cases hk2 : k2 < l2
      · have dck2 : decide ((k2 : Int) < (l2 : Int)) = true := decide_eq_true (by omega)
        have dck22 : ((k2 : Int) < (l2 : Int)) = True := by simp; omega
        have dck20 : ((0 : Int) ≤ (k2 : Int)) = True := by simp
        obtain ⟨q, hq⟩ : ∃ q, k2 = q + 1 := ⟨k2 - 1, by omega⟩
        have dcwq : IntKind.i64.wrap ((k2 : Int) - 1) = (q : Int) := by rw [wrap_i64 (by omega) (by omega)]; omega
        have dcq2 : ((q : Int) < (l2 : Int)) = True := by simp; omega
        have dcq0 : ((0 : Int) ≤ (q : Int)) = True := by simp
        have dcwk2 : IntKind.i64.wrap ((k2 : Int) + 1) = (k2 : Int) + 1 := wrap_i64 (by omega) (by omega)
        obtain ⟨x, hx⟩ : ∃ x, s[k + k2]? = some x := ⟨_, List.getElem?_eq_getElem (by omega)⟩
        obtain ⟨y, hy⟩ : ∃ y, s[k + q]? = some y := ⟨_, List.getElem?_eq_getElem (by omega)⟩
        have dcex : ((D ++ R).map eZ' ++ C)[k + k2]? = some [.sc (.int .i64 x)] := by rw [List.getElem?_append_left (by simp; omega), List.getElem?_map, hsame _ (by omega), hx]; rfl
        have dcey : ((D ++ R).map eZ' ++ C)[k + q]? = some [.sc (.int .i64 y)] := by rw [List.getElem?_append_left (by simp; omega), List.getElem?_map, hsame _ (by omega), hy]; rfl
        by_cases hxy : x = y
        · have dcxy : (x == y) = true := by simp [hxy]
          have hD' : dq s (k + (k2 + 1)) = D := by
            rw [hD, show k + (k2 + 1) = (k + q) + 2 by omega, dq_step_like s (k + q) x (by rw [show k + q + 1 = k + k2 by omega]; exact hx) (by rw [hxy]; exact hy), show k + q + 1 = k + k2 by omega]
          repeat (first | (with_reducible refine AW.seq ?_) | (with_reducible refine AW.block ?_) | (with_reducible refine AW.skip ?_) | (with_reducible refine AW.ret ?_) | (with_reducible refine AW.exit ?_) | (with_reducible refine AW.reg hT ?_) | ((with_reducible show AW _ (.region 6 _ _) _ _ _); (with_reducible refine AW.drawn (id := 6) hT [0,1,2,3,4,5,6,7,8,9] [[],[],[0,1],[0,1,2],[],[],[5],[4,5,6],[4,5,6,7],[0,1,2,3,4,5,6,7,8]] mix (by kernel_rfl) ?_)) | ((with_reducible show AW _ (.region 11 _ _) _ _ _); (with_reducible refine AW.drawn (id := 11) hT [0,1,2,3,4,5,6,7,8,9] [[],[],[0,1],[0,1,2],[],[],[5],[4,5,6],[4,5,6,7],[0,1,2,3,4,5,6,7,8]] mix (by kernel_rfl) ?_)) | ((with_reducible show DLeft _ _ _ _ (_ :: _) _ _ _ _); (with_reducible apply DLeft.step hT); (case hoi => ((simp only [List.getElem?_toArray,List.getElem?_cons_zero,List.getElem?_cons_succ]); with_reducible rfl)); (case hg => rfl); (case hk => rfl); (case hr => ((try simp (maxSteps := 3000000) (maxDischargeDepth := 12) only [push_cast,appendX,reduceIte,reduceCtorEq,Nat.reduceSub,Nat.reduceAdd,Nat.reduceMul,Nat.reduceLT,Nat.reduceLeDiff,Nat.reduceEqDiff,Nat.reduceBEq,Int.reduceToNat,Int.reduceLT,Int.reduceLE,Int.reduceEq,Int.reduceNeg,Try.results33,dcfl0,dc2,gt4,Heap.lt gt4,xt4.2,xt4.ltT,xt4.leT,dcfl,dck1n,dck10,dck2,dck22,dck20,dcwq,dcq2,dcq0,dcwk2,dcex,dcey,dcxy]); with_reducible rfl))) | ((with_reducible refine AW.cond_true ?_ ?_); · rfl) | ((with_reducible refine AW.cond_false ?_ ?_); · rfl) | simp (maxSteps := 3000000) (maxDischargeDepth := 12) only [push_cast,appendX,reduceIte,reduceCtorEq,Nat.reduceSub,Nat.reduceAdd,Nat.reduceMul,Nat.reduceLT,Nat.reduceLeDiff,Nat.reduceEqDiff,Nat.reduceBEq,Int.reduceToNat,Int.reduceLT,Int.reduceLE,Int.reduceEq,Int.reduceNeg,Try.results33,dcfl0,dc2,gt4,Heap.lt gt4,xt4.2,xt4.ltT,xt4.leT,dcfl,dck1n,dck10,dck2,dck22,dck20,dcwq,dcq2,dcq0,dcwk2,dcex,dcey,dcxy])
          exact ⟨l2 + 1 - (k2 + 1), by omega, k1, k2 + 1, R, rfl, by omega, by omega, by rw [hD']; exact hk1, by omega, by rw [hD']; exact hDR, fun i hi => by rw [hD']; exact hsame i (by omega), by rw [hD']; exact gt4, xt4, by (simp only [push_cast, TellsL, tells_any, tells_refl])⟩
        · have dcxy : (x == y) = false := by simp [hxy]
          have hD' : dq s (k + (k2 + 1)) = D ++ [x] := by
            rw [hD, show k + (k2 + 1) = (k + q) + 2 by omega, dq_step_new s (k + q) x y (by rw [show k + q + 1 = k + k2 by omega]; exact hx) hy hxy, show k + q + 1 = k + k2 by omega]
          have dcwk1 : IntKind.i64.wrap ((k1 : Int) + 1) = (k1 : Int) + 1 := wrap_i64 (by omega) (by omega)
          obtain ⟨r, R', rfl⟩ : ∃ r R', R = r :: R' := by
            rcases R with _ | ⟨r, R'⟩
            · simp at hDR; omega
            · exact ⟨r, R', rfl⟩
          have dcer : ((D ++ r :: R').map eZ' ++ C)[k1]? = some [.sc (.int .i64 r)] := by
            rw [hk1]; simp [eZ']
          have hset : ((D ++ r :: R').map eZ' ++ C).set k1 [.sc (.int .i64 x)] = (D ++ [x] ++ R').map eZ' ++ C := by
            rw [hk1]; simp [eZ']
          have hlt4 := Heap.lt gt4
          repeat (first | (with_reducible refine AW.seq ?_) | (with_reducible refine AW.block ?_) | (with_reducible refine AW.skip ?_) | (with_reducible refine AW.ret ?_) | (with_reducible refine AW.exit ?_) | (with_reducible refine AW.reg hT ?_) | ((with_reducible show AW _ (.region 6 _ _) _ _ _); (with_reducible refine AW.drawn (id := 6) hT [0,1,2,3,4,5,6,7,8,9] [[],[],[0,1],[0,1,2],[],[],[5],[4,5,6],[4,5,6,7],[0,1,2,3,4,5,6,7,8]] mix (by kernel_rfl) ?_)) | ((with_reducible show AW _ (.region 11 _ _) _ _ _); (with_reducible refine AW.drawn (id := 11) hT [0,1,2,3,4,5,6,7,8,9] [[],[],[0,1],[0,1,2],[],[],[5],[4,5,6],[4,5,6,7],[0,1,2,3,4,5,6,7,8]] mix (by kernel_rfl) ?_)) | ((with_reducible show DLeft _ _ _ _ (_ :: _) _ _ _ _); (with_reducible apply DLeft.step hT); (case hoi => ((simp only [List.getElem?_toArray,List.getElem?_cons_zero,List.getElem?_cons_succ]); with_reducible rfl)); (case hg => rfl); (case hk => rfl); (case hr => ((try simp (maxSteps := 3000000) (maxDischargeDepth := 12) only [push_cast,appendX,reduceIte,reduceCtorEq,Nat.reduceSub,Nat.reduceAdd,Nat.reduceMul,Nat.reduceLT,Nat.reduceLeDiff,Nat.reduceEqDiff,Nat.reduceBEq,Int.reduceToNat,Int.reduceLT,Int.reduceLE,Int.reduceEq,Int.reduceNeg,Try.results33,dcfl0,dc2,gt4,Heap.lt gt4,xt4.2,xt4.ltT,xt4.leT,dcfl,dck1n,dck10,dck2,dck22,dck20,dcwq,dcq2,dcq0,dcwk2,dcex,dcey,dcxy,dcwk1,dcer]); with_reducible rfl))) | ((with_reducible refine AW.cond_true ?_ ?_); · rfl) | ((with_reducible refine AW.cond_false ?_ ?_); · rfl) | simp (maxSteps := 3000000) (maxDischargeDepth := 12) only [push_cast,appendX,reduceIte,reduceCtorEq,Nat.reduceSub,Nat.reduceAdd,Nat.reduceMul,Nat.reduceLT,Nat.reduceLeDiff,Nat.reduceEqDiff,Nat.reduceBEq,Int.reduceToNat,Int.reduceLT,Int.reduceLE,Int.reduceEq,Int.reduceNeg,Try.results33,dcfl0,dc2,gt4,Heap.lt gt4,xt4.2,xt4.ltT,xt4.leT,dcfl,dck1n,dck10,dck2,dck22,dck20,dcwq,dcq2,dcq0,dcwk2,dcex,dcey,dcxy,dcwk1,dcer])
          refine ⟨l2 + 1 - (k2 + 1), by omega, k1 + 1, k2 + 1, R', rfl, by omega, by omega, by rw [hD', List.length_append, ← hk1]; rfl, by omega, by rw [hD']; simp at hDR ⊢; omega, fun i hi => ?_, ?_, by repeat (first | exact Ext.refl _ _ | assumption | refine Ext.push ?_ _ | ((refine Ext.set ?_ ?_ _); rotate_left; · (simp (maxSteps := 3000000) (maxDischargeDepth := 12) only [push_cast, appendX, Nat.reduceAdd, Nat.reduceEqDiff, Nat.reduceLT, Nat.reduceLeDiff, reduceIte, reduceCtorEq, dcfl0, dc2, gt4, Heap.lt gt4, xt4.2, xt4.ltT, xt4.leT, dcfl, dck1n, dck10, dck2, dck22, dck20, dcwq, dcq2, dcq0, dcwk2, dcex, dcey, dcxy, dcwk1, dcer])) | ((refine Ext.then1 (by assumption) ?_ ?_); rotate_left; · (intro p hp _; first | assumption | exact List.mem_cons_of_mem _ hp | (cases hp; done) | (simp at hp; subst hp; simp)))), by (simp only [push_cast, TellsL, tells_any, tells_refl])⟩
          · rw [hD', ← hsame i (by omega), List.append_assoc]
            obtain ⟨j, rfl⟩ : ∃ j, i = D.length + (j + 1) := ⟨i - D.length - 1, by omega⟩
            rw [List.getElem?_append_right (l₁ := D) (by omega), List.getElem?_append_right (l₁ := D) (by omega)]
            simp
          · rw [Heap.get_set hlt4, hD', hset]
      · have dck2 : decide ((k2 : Int) < (l2 : Int)) = false := decide_eq_false (by omega)
        have hke : k + k2 = s.length := by omega
        have dck1le : ((k1 : Int) ≤ (n : Int)) = True := by simp; omega
        obtain ⟨l3, hl3⟩ : ∃ l3, n = k1 + l3 := ⟨n - k1, by omega⟩
        have dcl3 : ((n : Int) - (k1 : Int)).toNat = l3 := by omega
        have dccl : (k1 + l3 ≤ m0 ∧ 0 < l3) = True := by simp; omega
        have hlt4 := Heap.lt gt4
        have hDs : dq s s.length = D := by rw [hD, hke]
        have dcfl2 : (List.take k1 ((D ++ R).map eZ' ++ C) ++ List.replicate l3 [DV.sc (Value.int .i64 0)] ++ List.drop (k1 + l3) ((D ++ R).map eZ' ++ C)).length = m0 := by simp; omega
        repeat (first | (with_reducible refine AW.seq ?_) | (with_reducible refine AW.block ?_) | (with_reducible refine AW.skip ?_) | (with_reducible refine AW.ret ?_) | (with_reducible refine AW.exit ?_) | (with_reducible refine AW.reg hT ?_) | ((with_reducible show AW _ (.region 6 _ _) _ _ _); (with_reducible refine AW.drawn (id := 6) hT [0,1,2,3,4,5,6,7,8,9] [[],[],[0,1],[0,1,2],[],[],[5],[4,5,6],[4,5,6,7],[0,1,2,3,4,5,6,7,8]] mix (by kernel_rfl) ?_)) | ((with_reducible show AW _ (.region 11 _ _) _ _ _); (with_reducible refine AW.drawn (id := 11) hT [0,1,2,3,4,5,6,7,8,9] [[],[],[0,1],[0,1,2],[],[],[5],[4,5,6],[4,5,6,7],[0,1,2,3,4,5,6,7,8]] mix (by kernel_rfl) ?_)) | ((with_reducible show DLeft _ _ _ _ (_ :: _) _ _ _ _); (with_reducible apply DLeft.step hT); (case hoi => ((simp only [List.getElem?_toArray,List.getElem?_cons_zero,List.getElem?_cons_succ]); with_reducible rfl)); (case hg => rfl); (case hk => rfl); (case hr => ((try simp (maxSteps := 3000000) (maxDischargeDepth := 12) only [push_cast,appendX,reduceIte,reduceCtorEq,Nat.reduceSub,Nat.reduceAdd,Nat.reduceMul,Nat.reduceLT,Nat.reduceLeDiff,Nat.reduceEqDiff,Nat.reduceBEq,Int.reduceToNat,Int.reduceLT,Int.reduceLE,Int.reduceEq,Int.reduceNeg,Try.results33,dcfl0,dc2,gt4,Heap.lt gt4,xt4.2,xt4.ltT,xt4.leT,dcfl,dck1n,dck10,dck2,dck1le,dcl3,dccl,dcfl2]); with_reducible rfl))) | ((with_reducible refine AW.cond_true ?_ ?_); · rfl) | ((with_reducible refine AW.cond_false ?_ ?_); · rfl) | simp (maxSteps := 3000000) (maxDischargeDepth := 12) only [push_cast,appendX,reduceIte,reduceCtorEq,Nat.reduceSub,Nat.reduceAdd,Nat.reduceMul,Nat.reduceLT,Nat.reduceLeDiff,Nat.reduceEqDiff,Nat.reduceBEq,Int.reduceToNat,Int.reduceLT,Int.reduceLE,Int.reduceEq,Int.reduceNeg,Try.results33,dcfl0,dc2,gt4,Heap.lt gt4,xt4.2,xt4.ltT,xt4.leT,dcfl,dck1n,dck10,dck2,dck1le,dcl3,dccl,dcfl2])
        refine ⟨List.replicate l3 [.sc (.int .i64 0)] ++ C, by rw [hDs, hk1], by rw [hDs]; simp; omega, ?_, by repeat (first | exact Ext.refl _ _ | assumption | refine Ext.push ?_ _ | ((refine Ext.set ?_ ?_ _); rotate_left; · (simp (maxSteps := 3000000) (maxDischargeDepth := 12) only [push_cast, appendX, Nat.reduceAdd, Nat.reduceEqDiff, Nat.reduceLT, Nat.reduceLeDiff, reduceIte, reduceCtorEq, dcfl0, dc2, gt4, Heap.lt gt4, xt4.2, xt4.ltT, xt4.leT, dcfl, dck1n, dck10, dck2, dck1le, dcl3, dccl, dcfl2])) | ((refine Ext.then1 (by assumption) ?_ ?_); rotate_left; · (intro p hp _; first | assumption | exact List.mem_cons_of_mem _ hp | (cases hp; done) | (simp at hp; subst hp; simp))))⟩
        first | rw [Heap.get_set hlt4] | skip
        rw [hDs]
        have e1 : ((D ++ R).map eZ' ++ C).take k1 = D.map eZ' := by
          rw [List.map_append, List.append_assoc, List.take_left' (by simp [hk1])]
        have e2 : ((D ++ R).map eZ' ++ C).drop (k1 + l3) = C := List.drop_left' (by simp; omega)
        rw [e1, e2, List.append_assoc]
  · have dck : decide ((k : Int) < (n : Int)) = false := decide_eq_false (by omega)
    have hd : dq s s.length = s := by rw [dq_same s _ (Nat.le_refl _) (fun j h1 h2 => hno j h1 (by omega)), List.take_length]
    repeat (first | (with_reducible refine AW.seq ?_) | (with_reducible refine AW.block ?_) | (with_reducible refine AW.skip ?_) | (with_reducible refine AW.ret ?_) | (with_reducible refine AW.exit ?_) | (with_reducible refine AW.reg hT ?_) | ((with_reducible show AW _ (.region 6 _ _) _ _ _); (with_reducible refine AW.drawn (id := 6) hT [0,1,2,3,4,5,6,7,8,9] [[],[],[0,1],[0,1,2],[],[],[5],[4,5,6],[4,5,6,7],[0,1,2,3,4,5,6,7,8]] mix (by kernel_rfl) ?_)) | ((with_reducible show AW _ (.region 11 _ _) _ _ _); (with_reducible refine AW.drawn (id := 11) hT [0,1,2,3,4,5,6,7,8,9] [[],[],[0,1],[0,1,2],[],[],[5],[4,5,6],[4,5,6,7],[0,1,2,3,4,5,6,7,8]] mix (by kernel_rfl) ?_)) | ((with_reducible show DLeft _ _ _ _ (_ :: _) _ _ _ _); (with_reducible apply DLeft.step hT); (case hoi => ((simp only [List.getElem?_toArray,List.getElem?_cons_zero,List.getElem?_cons_succ]); with_reducible rfl)); (case hg => rfl); (case hk => rfl); (case hr => ((try simp (maxSteps := 3000000) (maxDischargeDepth := 12) only [push_cast,appendX,reduceIte,reduceCtorEq,Nat.reduceSub,Nat.reduceAdd,Nat.reduceMul,Nat.reduceLT,Nat.reduceLeDiff,Nat.reduceEqDiff,Nat.reduceBEq,Int.reduceToNat,Int.reduceLT,Int.reduceLE,Int.reduceEq,Int.reduceNeg,Try.results33,dcfl0,dc2,dck]); with_reducible rfl))) | ((with_reducible refine AW.cond_true ?_ ?_); · rfl) | ((with_reducible refine AW.cond_false ?_ ?_); · rfl) | simp (maxSteps := 3000000) (maxDischargeDepth := 12) only [push_cast,appendX,reduceIte,reduceCtorEq,Nat.reduceSub,Nat.reduceAdd,Nat.reduceMul,Nat.reduceLT,Nat.reduceLeDiff,Nat.reduceEqDiff,Nat.reduceBEq,Int.reduceToNat,Int.reduceLT,Int.reduceLE,Int.reduceEq,Int.reduceNeg,Try.results33,dcfl0,dc2,dck])
    exact ⟨C, by rw [hd, hn], by rw [hd, hm], by first | (rw [hd]; exact gt) | rw [hd], Ext.refl _ _⟩
theorem compactN_ok (σ : Heap) : ACalls Try.prog 33 [.sc (.slice none 0 0)] σ (fun y σ' => y = .sc (.slice none 0 0) ∧ σ' = σ) := by
  refine ACalls.code hT Try.func33 rfl ?_
  simp only [Try.ntmps33, List.length_cons, List.length_nil, Nat.reduceSub, Nat.reduceAdd, List.replicate, List.cons_append, List.nil_append]
  repeat (first | (with_reducible refine AW.seq ?_) | (with_reducible refine AW.block ?_) | (with_reducible refine AW.skip ?_) | (with_reducible refine AW.ret ?_) | (with_reducible refine AW.exit ?_) | (with_reducible refine AW.reg hT ?_) | ((with_reducible show AW _ (.region 6 _ _) _ _ _); (with_reducible refine AW.drawn (id := 6) hT [0,1,2,3,4,5,6,7,8,9] [[],[],[0,1],[0,1,2],[],[],[5],[4,5,6],[4,5,6,7],[0,1,2,3,4,5,6,7,8]] mix (by kernel_rfl) ?_)) | ((with_reducible show AW _ (.region 11 _ _) _ _ _); (with_reducible refine AW.drawn (id := 11) hT [0,1,2,3,4,5,6,7,8,9] [[],[],[0,1],[0,1,2],[],[],[5],[4,5,6],[4,5,6,7],[0,1,2,3,4,5,6,7,8]] mix (by kernel_rfl) ?_)) | ((with_reducible show DLeft _ _ _ _ (_ :: _) _ _ _ _); (with_reducible apply DLeft.step hT); (case hoi => ((simp only [List.getElem?_toArray,List.getElem?_cons_zero,List.getElem?_cons_succ]); with_reducible rfl)); (case hg => rfl); (case hk => rfl); (case hr => ((try simp (maxSteps := 3000000) (maxDischargeDepth := 12) only [push_cast,appendX,reduceIte,reduceCtorEq,Nat.reduceSub,Nat.reduceAdd,Nat.reduceMul,Nat.reduceLT,Nat.reduceLeDiff,Nat.reduceEqDiff,Nat.reduceBEq,Int.reduceToNat,Int.reduceLT,Int.reduceLE,Int.reduceEq,Int.reduceNeg,Try.results33]); with_reducible rfl))) | ((with_reducible refine AW.cond_true ?_ ?_); · rfl) | ((with_reducible refine AW.cond_false ?_ ?_); · rfl) | simp (maxSteps := 3000000) (maxDischargeDepth := 12) only [push_cast,appendX,reduceIte,reduceCtorEq,Nat.reduceSub,Nat.reduceAdd,Nat.reduceMul,Nat.reduceLT,Nat.reduceLeDiff,Nat.reduceEqDiff,Nat.reduceBEq,Int.reduceToNat,Int.reduceLT,Int.reduceLE,Int.reduceEq,Int.reduceNeg,Try.results33])
theorem compactHold (σ : Heap) {d : DV} (s : List Int) (hh : Hold σ d 3 (s.map eZ')) (hb : s.length ≤ 1000000) : ACalls Try.prog 33 [d] σ (fun y σ' => Hold σ' y 3 ((dq s s.length).map eZ') ∧ (∀ p ∈ tOf y, p ∈ tOf d) ∧ Ext (tOf d) σ σ') := by
  rcases hh with ⟨rfl, he⟩ | ⟨t, full, rfl, gtt, hle, htk⟩
  · have : s = [] := by simpa using he
    subst this
    refine (compactN_ok σ).mono ?_
    rintro y σ' ⟨rfl, rfl⟩
    exact ⟨Hold.nil _ _, by simp, Ext.refl _ _⟩
  · rw [List.length_map] at htk hle
    have hfull : full = s.map eZ' ++ full.drop s.length := by
      conv => lhs; rw [← List.take_append_drop s.length full, htk]
    rw [List.length_map]
    refine (compact_ok σ s (full.drop s.length) s.length full.length rfl (by rw [List.length_drop]; omega) (by rw [gtt, ← hfull]) hb).mono ?_
    rintro y σ' ⟨C', rfl, h1, h2, h3⟩
    refine ⟨.inr ⟨t, (dq s s.length).map eZ' ++ C', ?_, h2, by simp, by simp⟩, by simp [tOf], h3⟩
    simp [← h1]
theorem mem_dq (s : List Int) (x : Int) : ∀ i, x ∈ dq s i ↔ ∃ j, j < i ∧ s[j]? = some x
  | 0 => by simp [dq]
  | i + 1 => by
    rw [dq, List.mem_append, mem_dq s x i]
    constructor
    · rintro (⟨j, h1, h2⟩ | h)
      · exact ⟨j, by omega, h2⟩
      · split at h
        · rename_i y hy
          split at h
          · cases h
          · rw [List.mem_singleton] at h
            subst h
            exact ⟨i, by omega, hy⟩
        · cases h
    · rintro ⟨j, h1, h2⟩
      by_cases hj : j < i
      · exact .inl ⟨j, hj, h2⟩
      · have : j = i := by omega
        subst this
        rw [h2]
        simp only
        split
        · rename_i h
          exact .inl ⟨j - 1, by omega, h.2⟩
        · exact .inr (by simp)
theorem mem_dq_all (s : List Int) (x : Int) : x ∈ dq s s.length ↔ x ∈ s := by
  rw [mem_dq, List.mem_iff_getElem?]
  constructor
  · rintro ⟨j, _, h⟩; exact ⟨j, h⟩
  · rintro ⟨j, h⟩; exact ⟨j, (List.getElem?_eq_some_iff.1 h).1, h⟩
theorem dq_last (s : List Int) : ∀ i, i < s.length → (dq s (i + 1)).getLast? = s[i]?
  | 0, h => by
    rw [dq]
    rw [List.getElem?_eq_getElem h]
    simp [dq]
  | i + 1, h => by
    rw [dq, List.getElem?_eq_getElem h]
    simp only
    split
    · rename_i h2
      rw [List.append_nil, dq_last s i (by omega)]
      exact h2.2
    · simp
theorem dq_rise (s : List Int) (hs : s.Pairwise (· ≤ ·)) : ∀ i, i ≤ s.length → (dq s i).Pairwise (· < ·)
  | 0, _ => by simp [dq]
  | i + 1, h => by
    rw [dq, List.getElem?_eq_getElem (by omega), List.pairwise_append]
    refine ⟨dq_rise s hs i (by omega), ?_, ?_⟩
    · simp only; split <;> simp
    · intro a ha b hb
      simp only at hb
      split at hb
      · cases hb
      · rename_i hne
        rw [List.mem_singleton] at hb
        subst hb
        obtain ⟨j, hj, hja⟩ := (mem_dq s a i).1 ha
        have hjl : j < s.length := by omega
        rw [List.getElem?_eq_getElem hjl] at hja
        have h1 := List.pairwise_iff_getElem.1 hs j i hjl (by omega) hj
        rw [Option.some.inj hja] at h1
        rcases Int.lt_or_eq_of_le h1 with h2 | h2
        · exact h2
        · exfalso
          refine hne ⟨by omega, ?_⟩
          rw [List.getElem?_eq_getElem (show i - 1 < s.length by omega)]
          have h3 : a ≤ s[i - 1]'(by omega) := by
            rcases Nat.lt_or_eq_of_le (show j ≤ i - 1 by omega) with h | h
            · have := List.pairwise_iff_getElem.1 hs j (i - 1) hjl (by omega) h
              rw [Option.some.inj hja] at this; exact this
            · subst h; rw [Option.some.inj hja]; exact Int.le_refl _
          have h4 := List.pairwise_iff_getElem.1 hs (i - 1) i (by omega) (by omega) (by omega)
          congr 1
          omega
/-- The other ends of a node's links, as they come. -/
def nrI (l : List Lk) (v : Int) : Nat → List Int
  | 0 => []
  | i + 1 => nrI l v i ++ match l[i]? with | some x => if v = x.f0 then [x.f1] else if v = x.f1 then [x.f0] else [] | none => []
theorem nrI_len (l : List Lk) (v : Int) : ∀ i, (nrI l v i).length ≤ i
  | 0 => by simp [nrI]
  | i + 1 => by
    have := nrI_len l v i
    rw [nrI, List.length_append]
    split
    · split
      · simp; omega
      · split <;> simp <;> omega
    · simp; omega
theorem mem_nrI (l : List Lk) (v w : Int) : ∀ i, w ∈ nrI l v i ↔ ∃ j x, j < i ∧ l[j]? = some x ∧ ((x.f0 = v ∧ x.f1 = w) ∨ (x.f1 = v ∧ x.f0 = w))
  | 0 => by simp [nrI]
  | i + 1 => by
    rw [nrI, List.mem_append, mem_nrI l v w i]
    constructor
    · rintro (⟨j, x, h1, h2⟩ | h)
      · exact ⟨j, x, by omega, h2⟩
      · split at h
        · rename_i x hx
          split at h
          · rename_i h1
            rw [List.mem_singleton] at h
            exact ⟨i, x, by omega, hx, .inl ⟨h1.symm, h.symm⟩⟩
          · split at h
            · rename_i h1
              rw [List.mem_singleton] at h
              exact ⟨i, x, by omega, hx, .inr ⟨h1.symm, h.symm⟩⟩
            · cases h
        · cases h
    · rintro ⟨j, x, h1, h2, h3⟩
      by_cases hj : j < i
      · exact .inl ⟨j, x, hj, h2, h3⟩
      · have : j = i := by omega
        subst this
        rw [h2]
        refine .inr ?_
        simp only
        rcases h3 with ⟨ha, hb⟩ | ⟨ha, hb⟩
        · rw [if_pos ha.symm]; simp [hb]
        · split
          · rename_i h; rw [← hb, ← h, ha]; simp
          · rw [if_pos ha.symm]; simp [hb]
def nearA (l : List Lk) (v : Int) : List Int := let S := srt (nrI l v l.length); dq S S.length
theorem mem_nearA (l : List Lk) (v w : Int) : w ∈ nearA l v ↔ ∃ j x, j < l.length ∧ l[j]? = some x ∧ ((x.f0 = v ∧ x.f1 = w) ∨ (x.f1 = v ∧ x.f0 = w)) := by
  unfold nearA
  rw [mem_dq_all, (srt_perm _).mem_iff, mem_nrI]
theorem nearA_len (l : List Lk) (v : Int) : (nearA l v).length ≤ l.length := by
  unfold nearA
  have h1 := dq_len (srt (nrI l v l.length)) (srt (nrI l v l.length)).length
  have h2 := (srt_perm (nrI l v l.length)).length_eq
  have h3 := nrI_len l v l.length
  simp only
  omega
theorem near_both (l : List Lk) (v w : Int) : decide (w ∈ nearA l v) = decide (v ∈ nearA l w) := by
  refine decide_eq_decide.2 ?_
  rw [mem_nearA, mem_nearA]
  constructor <;> (rintro ⟨j, x, h1, h2, h3⟩; exact ⟨j, x, h1, h2, h3.elim (fun h => .inr ⟨h.2, h.1⟩) (fun h => .inl ⟨h.2, h.1⟩)⟩)
def nrJ (l : List Lk) (v : Int) (σ0 : Heap) (m : Nat) (ts : List DV) (σ : Heap) : Prop := ∃ i d, m = l.length + 1 - i ∧ i ≤ l.length ∧ Hold σ d 3 ((nrI l v i).map eZ') ∧ (∀ p ∈ tOf d, σ0.n ≤ p) ∧ Ext [] σ0 σ ∧ TellsL ts (.any :: .sc (.int .i64 v) :: .any :: .any :: .any :: d :: .any :: .any :: .imm (l.map eK) :: .sc (.int .i64 l.length) :: .sc (.int .i64 i) :: .any :: .any :: .any :: .any :: .any :: .any :: .any :: .any :: .any :: .any :: .any :: .any :: .any :: .any :: .any :: .any :: .any :: .any :: .any :: .any :: .any :: .any :: .any :: .any :: .any :: .any :: .any :: [])
theorem pnear_ok (σ : Heap) (l : List Lk) (v : Int) (hl : l.length ≤ 1000000) : ACalls Try.prog 22 [.imm (l.map eK), .sc (.int .i64 v)] σ (fun x σ' => x = .imm ((nearA l v).map eZ) ∧ Ext [] σ σ') := by
  have dcml : (l.map eK).length = l.length := by simp
  refine ACalls.toImmH (e := 3) ?_
  show ACalls Try.prog 22 [.imm (l.map eK), .sc (.int .i64 v)] σ (fun x σ' => Hold σ' x 3 ((nearA l v).map eZ') ∧ (∀ q ∈ tOf x, σ.n ≤ q) ∧ Ext [] σ σ')
  refine ACalls.code hT Try.func22 rfl ?_
  simp only [Try.ntmps22, List.length_cons, List.length_nil, Nat.reduceSub, Nat.reduceAdd, List.replicate, List.cons_append, List.nil_append]
  repeat (first | (with_reducible refine AW.seq ?_) | (with_reducible refine AW.block ?_) | (with_reducible refine AW.skip ?_) | (with_reducible refine AW.ret ?_) | (with_reducible refine AW.exit ?_) | (with_reducible refine AW.reg hT ?_) | ((with_reducible refine AW.cond_true ?_ ?_); · rfl) | ((with_reducible refine AW.cond_false ?_ ?_); · rfl) | simp (maxSteps := 3000000) (maxDischargeDepth := 12) only [push_cast,appendX,reduceIte,reduceCtorEq,Nat.reduceSub,Nat.reduceAdd,Nat.reduceMul,Nat.reduceLT,Nat.reduceLeDiff,Nat.reduceEqDiff,Nat.reduceBEq,Int.reduceToNat,Int.reduceLT,Int.reduceLE,Int.reduceEq,Int.reduceNeg,Try.results22,dcml])
  refine AW.loop (nrJ l v σ) (m := l.length + 1) ⟨0, .sc (.slice none 0 0), rfl, Nat.zero_le _, Hold.nil _ _, by simp [tOf], Ext.refl _ _, by (simp only [push_cast, TellsL, tells_any, tells_refl])⟩ ?_
  rintro m ts σ3 ⟨i, d, rfl, hil, hh, hnew, xt3, hts⟩
  refine AW.told hts ?_
  clear hts
  by_cases hi : i < l.length
  · have dci : decide ((i : Int) < (l.length : Int)) = true := decide_eq_true (by omega)
    have dci2 : ((i : Int) < (l.length : Int)) = True := by simp; omega
    have dci0 : ((0 : Int) ≤ (i : Int)) = True := by simp
    obtain ⟨x, hx⟩ : ∃ x, l[i]? = some x := ⟨_, List.getElem?_eq_getElem hi⟩
    have dcel : (l.map eK)[i]? = some (eK x) := by rw [List.getElem?_map, hx]; rfl
    rw [eK_eq] at dcel
    have dcw : IntKind.i64.wrap ((i : Int) + 1) = (i : Int) + 1 := wrap_i64 (by omega) (by omega)
    have hol := nrI_len l v i
    by_cases hv : v = x.f0
    · have dcv : (v == x.f0) = true := by simpa using hv
      have hou : (nrI l v (i + 1)).map eZ' = (nrI l v i).map eZ' ++ [[.sc (.int .i64 x.f1)]] := by
        rw [nrI, hx]; simp [hv, eZ']
      obtain ⟨d5, σ5, dnapp, hh5, hnew5, xt5, xt6⟩ := Hold.app1x (ty := 23) (x := [.sc (.int .i64 x.f1)]) (σ0 := σ) (σ := (σ3.push ⟨[[.sc (.int .i64 0), .sc (.int .i64 0), .sc (.int .u64 0), .sc (.int .i64 0), .sc (.int .u32 0)]], 43, true⟩).set σ3.n ⟨[eK x], 43, true⟩) (hh.frame (X := []) (by repeat (first | exact Ext.refl _ _ | assumption | refine Ext.push ?_ _ | ((refine Ext.set ?_ ?_ _); rotate_left; · (simp (maxSteps := 3000000) (maxDischargeDepth := 12) only [push_cast, appendX, Nat.reduceAdd, Nat.reduceEqDiff, Nat.reduceLT, Nat.reduceLeDiff, reduceIte, reduceCtorEq, dcml, xt3.2, xt3.ltT, xt3.leT, dci, dci2, dci0, dcel, dcw, dcv])) | ((refine Ext.then1 (by assumption) ?_ ?_); rotate_left; · (intro p hp _; first | assumption | exact List.mem_cons_of_mem _ hp | (cases hp; done) | (simp at hp; subst hp; simp))))) (by simp)) hnew (by repeat (first | exact Ext.refl _ _ | assumption | refine Ext.push ?_ _ | ((refine Ext.set ?_ ?_ _); rotate_left; · (simp (maxSteps := 3000000) (maxDischargeDepth := 12) only [push_cast, appendX, Nat.reduceAdd, Nat.reduceEqDiff, Nat.reduceLT, Nat.reduceLeDiff, reduceIte, reduceCtorEq, dcml, xt3.2, xt3.ltT, xt3.leT, dci, dci2, dci0, dcel, dcw, dcv])) | ((refine Ext.then1 (by assumption) ?_ ?_); rotate_left; · (intro p hp _; first | assumption | exact List.mem_cons_of_mem _ hp | (cases hp; done) | (simp at hp; subst hp; simp))))) rfl rfl (by decide) rfl (by simp; omega)
      simp only [eK_eq, Heap.n_set, Heap.n_push] at dnapp
      clear xt6
      repeat (first | (with_reducible refine AW.seq ?_) | (with_reducible refine AW.block ?_) | (with_reducible refine AW.skip ?_) | (with_reducible refine AW.ret ?_) | (with_reducible refine AW.exit ?_) | (with_reducible refine AW.reg hT ?_) | ((with_reducible refine AW.cond_true ?_ ?_); · rfl) | ((with_reducible refine AW.cond_false ?_ ?_); · rfl) | simp (maxSteps := 3000000) (maxDischargeDepth := 12) only [push_cast,appendX,reduceIte,reduceCtorEq,Nat.reduceSub,Nat.reduceAdd,Nat.reduceMul,Nat.reduceLT,Nat.reduceLeDiff,Nat.reduceEqDiff,Nat.reduceBEq,Int.reduceToNat,Int.reduceLT,Int.reduceLE,Int.reduceEq,Int.reduceNeg,Try.results22,dcml,xt3.2,xt3.ltT,xt3.leT,dci,dci2,dci0,dcel,dcw,dcv,↓dnapp,xt5.2,xt5.ltT,xt5.leT])
      exact ⟨l.length + 1 - (i + 1), by omega, i + 1, d5, rfl, hi, by rw [hou]; exact hh5, hnew5, xt5, by (simp only [push_cast, TellsL, tells_any, tells_refl])⟩
    · have dcv : (v == x.f0) = false := by simpa using hv
      by_cases hv2 : v = x.f1
      · have dcv2 : (v == x.f1) = true := by simpa using hv2
        have hou : (nrI l v (i + 1)).map eZ' = (nrI l v i).map eZ' ++ [[.sc (.int .i64 x.f0)]] := by
          rw [nrI, hx]; simp only [if_neg hv, if_pos hv2]; simp [eZ']
        obtain ⟨d5, σ5, dnapp, hh5, hnew5, xt5, xt6⟩ := Hold.app1x (ty := 23) (x := [.sc (.int .i64 x.f0)]) (σ0 := σ) (σ := (σ3.push ⟨[[.sc (.int .i64 0), .sc (.int .i64 0), .sc (.int .u64 0), .sc (.int .i64 0), .sc (.int .u32 0)]], 43, true⟩).set σ3.n ⟨[eK x], 43, true⟩) (hh.frame (X := []) (by repeat (first | exact Ext.refl _ _ | assumption | refine Ext.push ?_ _ | ((refine Ext.set ?_ ?_ _); rotate_left; · (simp (maxSteps := 3000000) (maxDischargeDepth := 12) only [push_cast, appendX, Nat.reduceAdd, Nat.reduceEqDiff, Nat.reduceLT, Nat.reduceLeDiff, reduceIte, reduceCtorEq, dcml, xt3.2, xt3.ltT, xt3.leT, dci, dci2, dci0, dcel, dcw, dcv, dcv2])) | ((refine Ext.then1 (by assumption) ?_ ?_); rotate_left; · (intro p hp _; first | assumption | exact List.mem_cons_of_mem _ hp | (cases hp; done) | (simp at hp; subst hp; simp))))) (by simp)) hnew (by repeat (first | exact Ext.refl _ _ | assumption | refine Ext.push ?_ _ | ((refine Ext.set ?_ ?_ _); rotate_left; · (simp (maxSteps := 3000000) (maxDischargeDepth := 12) only [push_cast, appendX, Nat.reduceAdd, Nat.reduceEqDiff, Nat.reduceLT, Nat.reduceLeDiff, reduceIte, reduceCtorEq, dcml, xt3.2, xt3.ltT, xt3.leT, dci, dci2, dci0, dcel, dcw, dcv, dcv2])) | ((refine Ext.then1 (by assumption) ?_ ?_); rotate_left; · (intro p hp _; first | assumption | exact List.mem_cons_of_mem _ hp | (cases hp; done) | (simp at hp; subst hp; simp))))) rfl rfl (by decide) rfl (by simp; omega)
        simp only [eK_eq, Heap.n_set, Heap.n_push] at dnapp
        clear xt6
        repeat (first | (with_reducible refine AW.seq ?_) | (with_reducible refine AW.block ?_) | (with_reducible refine AW.skip ?_) | (with_reducible refine AW.ret ?_) | (with_reducible refine AW.exit ?_) | (with_reducible refine AW.reg hT ?_) | ((with_reducible refine AW.cond_true ?_ ?_); · rfl) | ((with_reducible refine AW.cond_false ?_ ?_); · rfl) | simp (maxSteps := 3000000) (maxDischargeDepth := 12) only [push_cast,appendX,reduceIte,reduceCtorEq,Nat.reduceSub,Nat.reduceAdd,Nat.reduceMul,Nat.reduceLT,Nat.reduceLeDiff,Nat.reduceEqDiff,Nat.reduceBEq,Int.reduceToNat,Int.reduceLT,Int.reduceLE,Int.reduceEq,Int.reduceNeg,Try.results22,dcml,xt3.2,xt3.ltT,xt3.leT,dci,dci2,dci0,dcel,dcw,dcv,dcv2,↓dnapp,xt5.2,xt5.ltT,xt5.leT])
        exact ⟨l.length + 1 - (i + 1), by omega, i + 1, d5, rfl, hi, by rw [hou]; exact hh5, hnew5, xt5, by (simp only [push_cast, TellsL, tells_any, tells_refl])⟩
      · have dcv2 : (v == x.f1) = false := by simpa using hv2
        have hou : nrI l v (i + 1) = nrI l v i := by rw [nrI, hx]; simp only [if_neg hv, if_neg hv2, List.append_nil]
        repeat (first | (with_reducible refine AW.seq ?_) | (with_reducible refine AW.block ?_) | (with_reducible refine AW.skip ?_) | (with_reducible refine AW.ret ?_) | (with_reducible refine AW.exit ?_) | (with_reducible refine AW.reg hT ?_) | ((with_reducible refine AW.cond_true ?_ ?_); · rfl) | ((with_reducible refine AW.cond_false ?_ ?_); · rfl) | simp (maxSteps := 3000000) (maxDischargeDepth := 12) only [push_cast,appendX,reduceIte,reduceCtorEq,Nat.reduceSub,Nat.reduceAdd,Nat.reduceMul,Nat.reduceLT,Nat.reduceLeDiff,Nat.reduceEqDiff,Nat.reduceBEq,Int.reduceToNat,Int.reduceLT,Int.reduceLE,Int.reduceEq,Int.reduceNeg,Try.results22,dcml,xt3.2,xt3.ltT,xt3.leT,dci,dci2,dci0,dcel,dcw,dcv,dcv2])
        exact ⟨l.length + 1 - (i + 1), by omega, i + 1, d, rfl, hi, by rw [hou]; exact hh.frame (X := []) (by repeat (first | exact Ext.refl _ _ | assumption | refine Ext.push ?_ _ | ((refine Ext.set ?_ ?_ _); rotate_left; · (simp (maxSteps := 3000000) (maxDischargeDepth := 12) only [push_cast, appendX, Nat.reduceAdd, Nat.reduceEqDiff, Nat.reduceLT, Nat.reduceLeDiff, reduceIte, reduceCtorEq, dcml, xt3.2, xt3.ltT, xt3.leT, dci, dci2, dci0, dcel, dcw, dcv, dcv2])) | ((refine Ext.then1 (by assumption) ?_ ?_); rotate_left; · (intro p hp _; first | assumption | exact List.mem_cons_of_mem _ hp | (cases hp; done) | (simp at hp; subst hp; simp))))) (by simp), hnew, by repeat (first | exact Ext.refl _ _ | assumption | refine Ext.push ?_ _ | ((refine Ext.set ?_ ?_ _); rotate_left; · (simp (maxSteps := 3000000) (maxDischargeDepth := 12) only [push_cast, appendX, Nat.reduceAdd, Nat.reduceEqDiff, Nat.reduceLT, Nat.reduceLeDiff, reduceIte, reduceCtorEq, dcml, xt3.2, xt3.ltT, xt3.leT, dci, dci2, dci0, dcel, dcw, dcv, dcv2])) | ((refine Ext.then1 (by assumption) ?_ ?_); rotate_left; · (intro p hp _; first | assumption | exact List.mem_cons_of_mem _ hp | (cases hp; done) | (simp at hp; subst hp; simp)))), by (simp only [push_cast, TellsL, tells_any, tells_refl])⟩
  · have dci : decide ((i : Int) < (l.length : Int)) = false := decide_eq_false (by omega)
    have he : i = l.length := by omega
    subst he
    have hol := nrI_len l v l.length
    repeat (first | (with_reducible refine AW.seq ?_) | (with_reducible refine AW.block ?_) | (with_reducible refine AW.skip ?_) | (with_reducible refine AW.ret ?_) | (with_reducible refine AW.exit ?_) | (with_reducible refine AW.reg hT ?_) | ((with_reducible refine AW.cond_true ?_ ?_); · rfl) | ((with_reducible refine AW.cond_false ?_ ?_); · rfl) | simp (maxSteps := 3000000) (maxDischargeDepth := 12) only [push_cast,appendX,reduceIte,reduceCtorEq,Nat.reduceSub,Nat.reduceAdd,Nat.reduceMul,Nat.reduceLT,Nat.reduceLeDiff,Nat.reduceEqDiff,Nat.reduceBEq,Int.reduceToNat,Int.reduceLT,Int.reduceLE,Int.reduceEq,Int.reduceNeg,Try.results22,dcml,xt3.2,xt3.ltT,xt3.leT,dci])
    refine AOpsL.call (first := []) (cap := []) hT rfl rfl rfl fn32 rfl (ACalls.mono (sortHold _ (nrI l v l.length) hh (by omega)) ?_)
    rintro y σ4 ⟨hh4, xt4⟩
    repeat (first | (with_reducible refine AW.seq ?_) | (with_reducible refine AW.block ?_) | (with_reducible refine AW.skip ?_) | (with_reducible refine AW.ret ?_) | (with_reducible refine AW.exit ?_) | (with_reducible refine AW.reg hT ?_) | ((with_reducible refine AW.cond_true ?_ ?_); · rfl) | ((with_reducible refine AW.cond_false ?_ ?_); · rfl) | simp (maxSteps := 3000000) (maxDischargeDepth := 12) only [push_cast,appendX,reduceIte,reduceCtorEq,Nat.reduceSub,Nat.reduceAdd,Nat.reduceMul,Nat.reduceLT,Nat.reduceLeDiff,Nat.reduceEqDiff,Nat.reduceBEq,Int.reduceToNat,Int.reduceLT,Int.reduceLE,Int.reduceEq,Int.reduceNeg,Try.results22,dcml,xt3.2,xt3.ltT,xt3.leT,dci,xt4.2,xt4.ltT,xt4.leT])
    refine AOpsL.call (first := []) (cap := []) hT rfl rfl rfl fn33 rfl (ACalls.mono (compactHold _ (srt (nrI l v l.length)) hh4 (by rw [(srt_perm _).length_eq]; omega)) ?_)
    rintro y σ5 ⟨hh5, hsub, xt5⟩
    have dncl := hh5.cells
    have dnlf := hh5.leaf
    repeat (first | (with_reducible refine AW.seq ?_) | (with_reducible refine AW.block ?_) | (with_reducible refine AW.skip ?_) | (with_reducible refine AW.ret ?_) | (with_reducible refine AW.exit ?_) | (with_reducible refine AW.reg hT ?_) | ((with_reducible refine AW.cond_true ?_ ?_); · rfl) | ((with_reducible refine AW.cond_false ?_ ?_); · rfl) | simp (maxSteps := 3000000) (maxDischargeDepth := 12) only [push_cast,appendX,reduceIte,reduceCtorEq,Nat.reduceSub,Nat.reduceAdd,Nat.reduceMul,Nat.reduceLT,Nat.reduceLeDiff,Nat.reduceEqDiff,Nat.reduceBEq,Int.reduceToNat,Int.reduceLT,Int.reduceLE,Int.reduceEq,Int.reduceNeg,Try.results22,dcml,xt3.2,xt3.ltT,xt3.leT,dci,xt4.2,xt4.ltT,xt4.leT,xt5.2,xt5.ltT,xt5.leT,↓dncl,↓dnlf])
    exact ⟨hh5, fun p hp => hnew p (hsub p hp), (xt3.then xt4 (fun p hp hl => absurd (hnew p hp) (by omega))).then xt5 (fun p hp hl => absurd (hnew p hp) (by omega))⟩
theorem gnear_ok (l : List Lk) (a b : Int) (h : l.length ≤ maxLen ∧ ∀ y ∈ l, wK y) (ha : (Lit.int .i64 a).wf = true) (hb : (Lit.int .i64 b).wf = true) : ACalls Try.prog 8 [.imm (l.map eK), .sc (.int .i64 a), .sc (.int .i64 b)] ⟨[]⟩ (fun x _ => x = .sc (.bool true)) := by
  generalize (⟨[]⟩ : Heap) = σ
  have dcml : (l.map eK).length = l.length := by simp
  refine ACalls.code hT Try.func8 rfl ?_
  simp only [Try.ntmps8, List.length_cons, List.length_nil, Nat.reduceSub, Nat.reduceAdd, List.replicate, List.cons_append, List.nil_append]
  repeat (first | (with_reducible refine AW.seq ?_) | (with_reducible refine AW.block ?_) | (with_reducible refine AW.skip ?_) | (with_reducible refine AW.ret ?_) | (with_reducible refine AW.exit ?_) | (with_reducible refine AW.reg hT ?_) | ((with_reducible refine AW.cond_true ?_ ?_); · rfl) | ((with_reducible refine AW.cond_false ?_ ?_); · rfl) | simp (maxSteps := 3000000) (maxDischargeDepth := 12) only [push_cast,appendX,reduceIte,reduceCtorEq,Nat.reduceSub,Nat.reduceAdd,Nat.reduceMul,Nat.reduceLT,Nat.reduceLeDiff,Nat.reduceEqDiff,Nat.reduceBEq,Int.reduceToNat,Int.reduceLT,Int.reduceLE,Int.reduceEq,Int.reduceNeg,Try.results8,dcml])
  refine AOpsL.call (first := []) (cap := []) hT rfl rfl rfl fn9 rfl (ACalls.mono (alive_ok _) ?_)
  rintro y σ1 ⟨rfl, xt1⟩
  by_cases h2 : 200 < l.length
  · have dc2 : decide (200 < (l.length : Int)) = true := decide_eq_true (by omega)
    repeat (first | (with_reducible refine AW.seq ?_) | (with_reducible refine AW.block ?_) | (with_reducible refine AW.skip ?_) | (with_reducible refine AW.ret ?_) | (with_reducible refine AW.exit ?_) | (with_reducible refine AW.reg hT ?_) | ((with_reducible refine AW.cond_true ?_ ?_); · rfl) | ((with_reducible refine AW.cond_false ?_ ?_); · rfl) | simp (maxSteps := 3000000) (maxDischargeDepth := 12) only [push_cast,appendX,reduceIte,reduceCtorEq,Nat.reduceSub,Nat.reduceAdd,Nat.reduceMul,Nat.reduceLT,Nat.reduceLeDiff,Nat.reduceEqDiff,Nat.reduceBEq,Int.reduceToNat,Int.reduceLT,Int.reduceLE,Int.reduceEq,Int.reduceNeg,Try.results8,dcml,xt1.2,xt1.ltT,xt1.leT,dc2])
  have dc2 : decide (200 < (l.length : Int)) = false := decide_eq_false (by omega)
  have hla := nearA_len l a
  have hlb := nearA_len l b
  have hbo := near_both l a b
  have dcbb : (decide (b ∈ nearA l a) == decide (a ∈ nearA l b)) = true := by rw [hbo]; simp
  repeat (first | (with_reducible refine AW.seq ?_) | (with_reducible refine AW.block ?_) | (with_reducible refine AW.skip ?_) | (with_reducible refine AW.ret ?_) | (with_reducible refine AW.exit ?_) | (with_reducible refine AW.reg hT ?_) | ((with_reducible refine AW.cond_true ?_ ?_); · rfl) | ((with_reducible refine AW.cond_false ?_ ?_); · rfl) | simp (maxSteps := 3000000) (maxDischargeDepth := 12) only [push_cast,appendX,reduceIte,reduceCtorEq,Nat.reduceSub,Nat.reduceAdd,Nat.reduceMul,Nat.reduceLT,Nat.reduceLeDiff,Nat.reduceEqDiff,Nat.reduceBEq,Int.reduceToNat,Int.reduceLT,Int.reduceLE,Int.reduceEq,Int.reduceNeg,Try.results8,dcml,xt1.2,xt1.ltT,xt1.leT,dc2,dcbb])
  refine AOpsL.call (first := []) (cap := []) hT rfl rfl rfl fn22 rfl (ACalls.mono (pnear_ok _ l a (by omega)) ?_)
  rintro y σ2 ⟨rfl, xt2⟩
  repeat (first | (with_reducible refine AW.seq ?_) | (with_reducible refine AW.block ?_) | (with_reducible refine AW.skip ?_) | (with_reducible refine AW.ret ?_) | (with_reducible refine AW.exit ?_) | (with_reducible refine AW.reg hT ?_) | ((with_reducible refine AW.cond_true ?_ ?_); · rfl) | ((with_reducible refine AW.cond_false ?_ ?_); · rfl) | simp (maxSteps := 3000000) (maxDischargeDepth := 12) only [push_cast,appendX,reduceIte,reduceCtorEq,Nat.reduceSub,Nat.reduceAdd,Nat.reduceMul,Nat.reduceLT,Nat.reduceLeDiff,Nat.reduceEqDiff,Nat.reduceBEq,Int.reduceToNat,Int.reduceLT,Int.reduceLE,Int.reduceEq,Int.reduceNeg,Try.results8,dcml,xt1.2,xt1.ltT,xt1.leT,dc2,dcbb,xt2.2,xt2.ltT,xt2.leT])
  refine AOpsL.call (first := []) (cap := []) hT rfl rfl rfl fn24 rfl (ACalls.mono (has_ok _ (nearA l a) b (by omega)) ?_)
  rintro y σ3 ⟨rfl, rfl⟩
  repeat (first | (with_reducible refine AW.seq ?_) | (with_reducible refine AW.block ?_) | (with_reducible refine AW.skip ?_) | (with_reducible refine AW.ret ?_) | (with_reducible refine AW.exit ?_) | (with_reducible refine AW.reg hT ?_) | ((with_reducible refine AW.cond_true ?_ ?_); · rfl) | ((with_reducible refine AW.cond_false ?_ ?_); · rfl) | simp (maxSteps := 3000000) (maxDischargeDepth := 12) only [push_cast,appendX,reduceIte,reduceCtorEq,Nat.reduceSub,Nat.reduceAdd,Nat.reduceMul,Nat.reduceLT,Nat.reduceLeDiff,Nat.reduceEqDiff,Nat.reduceBEq,Int.reduceToNat,Int.reduceLT,Int.reduceLE,Int.reduceEq,Int.reduceNeg,Try.results8,dcml,xt1.2,xt1.ltT,xt1.leT,dc2,dcbb,xt2.2,xt2.ltT,xt2.leT])
  refine AOpsL.call (first := []) (cap := []) hT rfl rfl rfl fn22 rfl (ACalls.mono (pnear_ok _ l b (by omega)) ?_)
  rintro y σ4 ⟨rfl, xt4⟩
  repeat (first | (with_reducible refine AW.seq ?_) | (with_reducible refine AW.block ?_) | (with_reducible refine AW.skip ?_) | (with_reducible refine AW.ret ?_) | (with_reducible refine AW.exit ?_) | (with_reducible refine AW.reg hT ?_) | ((with_reducible refine AW.cond_true ?_ ?_); · rfl) | ((with_reducible refine AW.cond_false ?_ ?_); · rfl) | simp (maxSteps := 3000000) (maxDischargeDepth := 12) only [push_cast,appendX,reduceIte,reduceCtorEq,Nat.reduceSub,Nat.reduceAdd,Nat.reduceMul,Nat.reduceLT,Nat.reduceLeDiff,Nat.reduceEqDiff,Nat.reduceBEq,Int.reduceToNat,Int.reduceLT,Int.reduceLE,Int.reduceEq,Int.reduceNeg,Try.results8,dcml,xt1.2,xt1.ltT,xt1.leT,dc2,dcbb,xt2.2,xt2.ltT,xt2.leT,xt4.2,xt4.ltT,xt4.leT])
  refine AOpsL.call (first := []) (cap := []) hT rfl rfl rfl fn24 rfl (ACalls.mono (has_ok _ (nearA l b) a (by omega)) ?_)
  rintro y σ5 ⟨rfl, rfl⟩
  repeat (first | (with_reducible refine AW.seq ?_) | (with_reducible refine AW.block ?_) | (with_reducible refine AW.skip ?_) | (with_reducible refine AW.ret ?_) | (with_reducible refine AW.exit ?_) | (with_reducible refine AW.reg hT ?_) | ((with_reducible refine AW.cond_true ?_ ?_); · rfl) | ((with_reducible refine AW.cond_false ?_ ?_); · rfl) | simp (maxSteps := 3000000) (maxDischargeDepth := 12) only [push_cast,appendX,reduceIte,reduceCtorEq,Nat.reduceSub,Nat.reduceAdd,Nat.reduceMul,Nat.reduceLT,Nat.reduceLeDiff,Nat.reduceEqDiff,Nat.reduceBEq,Int.reduceToNat,Int.reduceLT,Int.reduceLE,Int.reduceEq,Int.reduceNeg,Try.results8,dcml,xt1.2,xt1.ltT,xt1.leT,dc2,dcbb,xt2.2,xt2.ltT,xt2.leT,xt4.2,xt4.ltT,xt4.leT])
end Go.Proofs.Ytpigelcckiejiaa.Cm
