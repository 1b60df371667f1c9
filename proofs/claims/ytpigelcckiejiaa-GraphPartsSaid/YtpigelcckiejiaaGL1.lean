/- GraphParts. -/
import Derived.Test.YtpigelcckiejiaaGF4
import Derived.Test.YtpigelcckiejiaaPNum
namespace Go.Proofs.Ytpigelcckiejiaa.Cm
open Go.RowKit
set_option linter.unusedVariables false
set_option linter.unusedSimpArgs false
set_option maxRecDepth 20000
set_option maxHeartbeats 8000000
theorem rtv_ok {l : List Lk} {r : List Int} (h : (rtv l r).2 = 0) : 2 ≤ r.length ∧ r.length ≤ 16 ∧ rtG l r r.length = some (rtv l r).1 := by
  unfold rtv at h ⊢
  split at h
  · cases h
  · rename_i hl
    rw [if_neg hl]
    cases hg : rtG l r r.length with
    | none => rw [hg] at h; cases h
    | some n => exact ⟨by omega, by omega, rfl⟩
theorem rtv_no {l : List Lk} {r : List Int} (h : (rtv l r).2 ≠ 0) : (rtv l r).1 = 0 := by
  unfold rtv at h ⊢
  split
  · rfl
  · rename_i hl
    rw [if_neg hl] at h
    cases hg : rtG l r r.length with
    | none => rfl
    | some n => rw [hg] at h; exact absurd rfl h
/-- A step of a route that may be. -/
theorem rtG_inv {l : List Lk} {r : List Int} {i : Nat} {n : Int} (h : rtG l r (i + 1) = some n) : r.getD i 0 ∉ r.take i ∧ ((i = 0 ∧ rtG l r i = some n) ∨ (i ≠ 0 ∧ ∃ m x, rtG l r i = some m ∧ 0 ≤ fnd l (r.getD (i - 1) 0) (r.getD i 0) ∧ l[(fnd l (r.getD (i - 1) 0) (r.getD i 0)).toNat]? = some x ∧ n = m + x.f3)) := by
  unfold rtG at h
  split at h
  · cases h
  · rename_i m hm
    split at h
    · cases h
    · rename_i hx
      refine ⟨hx, ?_⟩
      split at h
      · rename_i h0
        cases h; exact .inl ⟨h0, hm⟩
      · rename_i h0
        split at h
        · cases h
        · rename_i hf
          split at h
          · rename_i x hxx
            cases h
            exact .inr ⟨h0, m, x, hm, by omega, hxx, rfl⟩
          · cases h
theorem rtG_some {l : List Lk} {r : List Int} {j : Nat} {n : Int} (h : rtG l r j = some n) {i : Nat} (hi : i ≤ j) : ∃ m, rtG l r i = some m := by
  cases hg : rtG l r i with
  | some m => exact ⟨m, rfl⟩
  | none => rw [rtG_none hg j hi] at h; cases h
/-- The links of a route that may be. -/
theorem rtG_link {l : List Lk} {r : List Int} {n : Int} (h : rtG l r r.length = some n) {i : Nat} (hi : i + 1 < r.length) : ∃ x ∈ l, x.f0 = r.getD i 0 ∧ x.f1 = r.getD (i + 1) 0 := by
  obtain ⟨m, hm⟩ := rtG_some h (show i + 1 + 1 ≤ r.length by omega)
  rcases (rtG_inv hm).2 with ⟨h0, _⟩ | ⟨_, m', x, _, hf, _, _⟩
  · omega
  · obtain ⟨y, hy, h1, h2⟩ := fnd_lt l _ _ hf
    exact ⟨y, List.mem_of_getElem? hy, h1, h2⟩
theorem rt_reach {N : Int} {l : List Lk} {r : List Int} {n : Int} {out : List Bool} (hc : chk N l = 0) (h2 : 2 ≤ r.length) (h : rtG l r r.length = some n) (ho : RchOk N l (r.getD 0 0) out) : ∀ i, i < r.length → 0 ≤ r.getD i 0 ∧ r.getD i 0 < (out.length : Int) ∧ out[(r.getD i 0).toNat]? = some true := by
  obtain ⟨⟨hk, _⟩, _⟩ := ck_of hc
  obtain ⟨x0, hx0, hx1, _⟩ := rtG_link h (i := 0) (by omega)
  have hk0 := hk x0 hx0
  unfold lkOk at hk0
  obtain ⟨o1, o2⟩ := ho.2 ⟨hc, by omega, by omega⟩
  have key : ∀ i, i < r.length → 0 ≤ r.getD i 0 ∧ r.getD i 0 < N ∧ Rc l (r.getD 0 0) (r.getD i 0) := by
    intro i
    induction i with
    | zero => intro _; exact ⟨by omega, by omega, .start⟩
    | succ i ih =>
      intro hi
      obtain ⟨_, _, h5⟩ := ih (by omega)
      obtain ⟨x, hx, h6, h7⟩ := rtG_link h hi
      have hkx := hk x hx
      unfold lkOk at hkx
      rw [← h7]
      exact ⟨by omega, by omega, .step hx (by rw [h6]; exact h5)⟩
  intro i hi
  obtain ⟨k1, k2, k3⟩ := key i hi
  refine ⟨k1, by omega, (o2 _).2 ⟨by omega, ?_⟩⟩
  have : (((r.getD i 0).toNat : Nat) : Int) = r.getD i 0 := by omega
  rw [this]; exact k3
theorem rtG_take {l : List Lk} {r : List Int} {k : Nat} : ∀ i, i ≤ k → rtG l (r.take k) i = rtG l r i
  | 0, _ => rfl
  | i + 1, h => by
    have h1 : (r.take k).getD i 0 = r.getD i 0 := by
      simp only [List.getD_eq_getElem?_getD, List.getElem?_take, if_pos (show i < k by omega)]
    have h2 : (r.take k).getD (i - 1) 0 = r.getD (i - 1) 0 := by
      simp only [List.getD_eq_getElem?_getD, List.getElem?_take, if_pos (show i - 1 < k by omega)]
    have h3 : (r.take k).take i = r.take i := by rw [List.take_take, Nat.min_eq_left (by omega)]
    have ih := rtG_take (l := l) (r := r) (k := k) i (by omega)
    simp only [rtG, ih, h1, h2, h3]
theorem rtG_drop {l : List Lk} {r : List Int} {k : Nat} {a : Int} (ha : rtG l r (k + 1) = some a) : ∀ i m, rtG l r (k + 1 + i) = some m → rtG l (r.drop k) (i + 1) = some (m - a)
  | 0, m, h => by
    rw [Nat.add_zero, ha] at h
    cases h
    simp [rtG]
  | i + 1, m, h => by
    obtain ⟨hx, h0 | ⟨_, m', x, hm', hf, hxx, rfl⟩⟩ := rtG_inv (i := k + 1 + i) h
    · omega
    · have ih := rtG_drop ha i m' hm'
      have h1 : (r.drop k).getD (i + 1) 0 = r.getD (k + 1 + i) 0 := by
        simp only [List.getD_eq_getElem?_getD, List.getElem?_drop]; congr 2; omega
      have h2 : (r.drop k).getD (i + 1 - 1) 0 = r.getD (k + 1 + i - 1) 0 := by
        simp only [List.getD_eq_getElem?_getD, List.getElem?_drop]; congr 2; omega
      have h3 : r.getD (k + 1 + i) 0 ∉ (r.drop k).take (i + 1) := fun hm => hx (by
        rw [List.take_drop] at hm
        have := List.mem_of_mem_drop hm
        rw [show k + (i + 1) = k + 1 + i by omega] at this; exact this)
      have e : rtG l (r.drop k) (i + 1 + 1) = if (r.drop k).getD (i + 1) 0 ∈ (r.drop k).take (i + 1) then none else if i + 1 = 0 then some (m' - a) else if fnd l ((r.drop k).getD (i + 1 - 1) 0) ((r.drop k).getD (i + 1) 0) < 0 then none else match l[(fnd l ((r.drop k).getD (i + 1 - 1) 0) ((r.drop k).getD (i + 1) 0)).toNat]? with
        | some x => some (m' - a + x.f3)
        | none => none := by
        rw [rtG, ih]; rfl
      rw [e, h1, h2, if_neg h3, if_neg (by omega), if_neg (by omega), hxx]
      simp only []
      congr 1; omega
/-- A route that is cut into two. -/
theorem rt_parts {l : List Lk} {r : List Int} {k : Nat} (h : (rtv l r).2 = 0) (hk : 0 < k) (hkr : k + 1 < r.length) : ∃ a b, rtv l (r.take (k + 1)) = (a, 0) ∧ rtv l (r.drop k) = (b, 0) ∧ a + b = (rtv l r).1 := by
  obtain ⟨h2, h16, hr⟩ := rtv_ok h
  obtain ⟨a, ha⟩ := rtG_some hr (show k + 1 ≤ r.length by omega)
  refine ⟨a, (rtv l r).1 - a, ?_, ?_, by omega⟩
  · apply rtv_some (by rw [List.length_take]; omega) (by rw [List.length_take]; omega)
    rw [List.length_take, Nat.min_eq_left (by omega), rtG_take _ (Nat.le_refl _)]; exact ha
  · apply rtv_some (by rw [List.length_drop]; omega) (by rw [List.length_drop]; omega)
    have e : (r.drop k).length = (r.length - k - 1) + 1 := by rw [List.length_drop]; omega
    rw [e]
    exact rtG_drop ha _ _ (by rw [show k + 1 + (r.length - k - 1) = r.length by omega]; exact hr)
abbrev Nt := S36
abbrev eT := e36
theorem eT_eq (x : Nt) : eT x = [.sc (.int .i64 x.f0), .imm (x.f1.map eK)] := rfl
def gpI (r : List Int) (l : List Lk) (c n9 : Int) (out : List Bool) (σ0 : Heap) (m : Nat) (ts : List DV) (σ : Heap) : Prop := ∃ i, m = r.length + 1 - i ∧ i ≤ r.length ∧ TellsL ts (.any :: .imm (r.map eZ) :: .sc (.int .u8 c) :: .any :: .any :: .any :: .any :: .any :: .imm (l.map eK) :: .sc (.int .i64 n9) :: .any :: .imm (out.map eB) :: .any :: .any :: .any :: .any :: .any :: .any :: .any :: .any :: .any :: .any :: .any :: .any :: .any :: .any :: .any :: .any :: .any :: .any :: .any :: .any :: .any :: .any :: .any :: .any :: .any :: .any :: .any :: .any :: .any :: .any :: .any :: .any :: .any :: .any :: .any :: .any :: .any :: .any :: .any :: .any :: .any :: .imm (r.map eZ) :: .sc (.int .i64 r.length) :: .sc (.int .i64 i) :: .any :: .any :: .any :: .any :: .any :: .any :: .any :: .any :: .any :: .any :: .any :: .any :: .any :: .any :: .any :: .any :: .any :: .any :: .any :: .any :: .any :: .any :: .any :: .any :: .any :: .any :: .any :: .any :: .any :: .any :: .any :: .any :: .any :: .any :: .any :: .any :: .any :: .any :: .any :: .any :: .any :: .any :: .any :: .any :: .any :: .any :: .any :: .any :: .any :: .any :: .any :: .any :: .any :: .any :: .any :: .any :: .any :: .any :: .any :: .any :: .any :: .any :: .any :: [])
theorem parts_ok (net : Nt) (r : List Int) (c : Int) (hn : w36 net) (hr : r.length ≤ maxLen ∧ ∀ y ∈ r, (Lit.int .i64 y).wf = true) (hy : r.length * 8 ≤ 140737488351232) (hc8 : (Lit.int .u8 c).wf = true) : ACalls Try.prog 5 [.agg (eT net), .imm (r.map (fun n : Int => [DV.sc (.int .i64 n)])), .sc (.int .u8 c)] ⟨[]⟩ (fun x _ => x = .sc (.bool true)) := by
  generalize (⟨[]⟩ : Heap) = σ
  show ACalls Try.prog 5 [.agg (eT net), .imm (r.map eZ), .sc (.int .u8 c)] σ (fun x _ => x = .sc (.bool true))
  have hwn : ∀ x ∈ net.f1, wK x := hn.2.2
  have hln : net.f1.length ≤ maxLen := hn.2.1
  have hcb := wf_u8 hc8
  have dcmr : (r.map eZ).length = r.length := by simp
  generalize hN : net.f0 = N
  generalize hL : net.f1 = l at hwn hln
  simp only [eT_eq, hN, hL]
  refine ACalls.code hT Try.func5 rfl ?_
  simp only [Try.ntmps5, List.length_cons, List.length_nil, Nat.reduceSub, Nat.reduceAdd, List.replicate, List.cons_append, List.nil_append]
  repeat (first | (with_reducible refine AW.seq ?_) | (with_reducible refine AW.block ?_) | (with_reducible refine AW.skip ?_) | (with_reducible refine AW.ret ?_) | (with_reducible refine AW.exit ?_) | (with_reducible refine AW.reg hT ?_) | (with_reducible refine AW.drawn (id := 3) hT [0, 1, 2, 3, 4, 5] [[], [0], [], [2], [0, 1], [0, 1, 2, 3, 4]] mix (by kernel_rfl) ?_) | ((with_reducible apply DLeft.step hT); (case hoi => ((simp only [List.getElem?_toArray, List.getElem?_cons_zero, List.getElem?_cons_succ]); with_reducible rfl)); (case hg => rfl); (case hk => rfl); (case hr => ((try simp (maxSteps := 3000000) (maxDischargeDepth := 12) only [push_cast, appendX, reduceIte, reduceCtorEq, Nat.reduceSub, Nat.reduceAdd, Nat.reduceMul, Nat.reduceLT, Nat.reduceLeDiff, Nat.reduceEqDiff, Nat.reduceBEq, Int.reduceToNat, Int.reduceLT, Int.reduceLE, Int.reduceEq, Int.reduceNeg, Try.results5, dcmr]); with_reducible rfl))) | ((with_reducible refine AW.cond_true ?_ ?_); · rfl) | ((with_reducible refine AW.cond_false ?_ ?_); · rfl) | simp (maxSteps := 3000000) (maxDischargeDepth := 12) only [push_cast, appendX, reduceIte, reduceCtorEq, Nat.reduceSub, Nat.reduceAdd, Nat.reduceMul, Nat.reduceLT, Nat.reduceLeDiff, Nat.reduceEqDiff, Nat.reduceBEq, Int.reduceToNat, Int.reduceLT, Int.reduceLE, Int.reduceEq, Int.reduceNeg, Try.results5, dcmr])
  refine AOpsL.call (first := []) (cap := []) hT rfl rfl rfl fn9 rfl (ACalls.mono (alive_ok _) ?_)
  rintro y σ1 ⟨rfl, xt1⟩
  repeat (first | (with_reducible refine AW.seq ?_) | (with_reducible refine AW.block ?_) | (with_reducible refine AW.skip ?_) | (with_reducible refine AW.ret ?_) | (with_reducible refine AW.exit ?_) | (with_reducible refine AW.reg hT ?_) | (with_reducible refine AW.drawn (id := 3) hT [0, 1, 2, 3, 4, 5] [[], [0], [], [2], [0, 1], [0, 1, 2, 3, 4]] mix (by kernel_rfl) ?_) | ((with_reducible apply DLeft.step hT); (case hoi => ((simp only [List.getElem?_toArray, List.getElem?_cons_zero, List.getElem?_cons_succ]); with_reducible rfl)); (case hg => rfl); (case hk => rfl); (case hr => ((try simp (maxSteps := 3000000) (maxDischargeDepth := 12) only [push_cast, appendX, reduceIte, reduceCtorEq, Nat.reduceSub, Nat.reduceAdd, Nat.reduceMul, Nat.reduceLT, Nat.reduceLeDiff, Nat.reduceEqDiff, Nat.reduceBEq, Int.reduceToNat, Int.reduceLT, Int.reduceLE, Int.reduceEq, Int.reduceNeg, Try.results5, dcmr, xt1.2, xt1.ltT, xt1.leT]); with_reducible rfl))) | ((with_reducible refine AW.cond_true ?_ ?_); · rfl) | ((with_reducible refine AW.cond_false ?_ ?_); · rfl) | simp (maxSteps := 3000000) (maxDischargeDepth := 12) only [push_cast, appendX, reduceIte, reduceCtorEq, Nat.reduceSub, Nat.reduceAdd, Nat.reduceMul, Nat.reduceLT, Nat.reduceLeDiff, Nat.reduceEqDiff, Nat.reduceBEq, Int.reduceToNat, Int.reduceLT, Int.reduceLE, Int.reduceEq, Int.reduceNeg, Try.results5, dcmr, xt1.2, xt1.ltT, xt1.leT])
  refine AOpsL.call (first := []) (cap := []) hT rfl rfl rfl fn10 rfl (ACalls.mono (small_ok _ l hln) ?_)
  rintro y s ⟨⟨b, rfl, hb⟩, rfl⟩
  cases b with
  | false => repeat (first | (with_reducible refine AW.seq ?_) | (with_reducible refine AW.block ?_) | (with_reducible refine AW.skip ?_) | (with_reducible refine AW.ret ?_) | (with_reducible refine AW.exit ?_) | (with_reducible refine AW.reg hT ?_) | (with_reducible refine AW.drawn (id := 3) hT [0, 1, 2, 3, 4, 5] [[], [0], [], [2], [0, 1], [0, 1, 2, 3, 4]] mix (by kernel_rfl) ?_) | ((with_reducible apply DLeft.step hT); (case hoi => ((simp only [List.getElem?_toArray, List.getElem?_cons_zero, List.getElem?_cons_succ]); with_reducible rfl)); (case hg => rfl); (case hk => rfl); (case hr => ((try simp (maxSteps := 3000000) (maxDischargeDepth := 12) only [push_cast, appendX, reduceIte, reduceCtorEq, Nat.reduceSub, Nat.reduceAdd, Nat.reduceMul, Nat.reduceLT, Nat.reduceLeDiff, Nat.reduceEqDiff, Nat.reduceBEq, Int.reduceToNat, Int.reduceLT, Int.reduceLE, Int.reduceEq, Int.reduceNeg, Try.results5, dcmr, xt1.2, xt1.ltT, xt1.leT]); with_reducible rfl))) | ((with_reducible refine AW.cond_true ?_ ?_); · rfl) | ((with_reducible refine AW.cond_false ?_ ?_); · rfl) | simp (maxSteps := 3000000) (maxDischargeDepth := 12) only [push_cast, appendX, reduceIte, reduceCtorEq, Nat.reduceSub, Nat.reduceAdd, Nat.reduceMul, Nat.reduceLT, Nat.reduceLeDiff, Nat.reduceEqDiff, Nat.reduceBEq, Int.reduceToNat, Int.reduceLT, Int.reduceLE, Int.reduceEq, Int.reduceNeg, Try.results5, dcmr, xt1.2, xt1.ltT, xt1.leT])
  | true =>
    obtain ⟨hs, h200⟩ := hb rfl
    by_cases h2 : 200 < r.length
    · have dc2 : decide (200 < (r.length : Int)) = true := decide_eq_true (by omega)
      repeat (first | (with_reducible refine AW.seq ?_) | (with_reducible refine AW.block ?_) | (with_reducible refine AW.skip ?_) | (with_reducible refine AW.ret ?_) | (with_reducible refine AW.exit ?_) | (with_reducible refine AW.reg hT ?_) | (with_reducible refine AW.drawn (id := 3) hT [0, 1, 2, 3, 4, 5] [[], [0], [], [2], [0, 1], [0, 1, 2, 3, 4]] mix (by kernel_rfl) ?_) | ((with_reducible apply DLeft.step hT); (case hoi => ((simp only [List.getElem?_toArray, List.getElem?_cons_zero, List.getElem?_cons_succ]); with_reducible rfl)); (case hg => rfl); (case hk => rfl); (case hr => ((try simp (maxSteps := 3000000) (maxDischargeDepth := 12) only [push_cast, appendX, reduceIte, reduceCtorEq, Nat.reduceSub, Nat.reduceAdd, Nat.reduceMul, Nat.reduceLT, Nat.reduceLeDiff, Nat.reduceEqDiff, Nat.reduceBEq, Int.reduceToNat, Int.reduceLT, Int.reduceLE, Int.reduceEq, Int.reduceNeg, Try.results5, dcmr, xt1.2, xt1.ltT, xt1.leT, dc2]); with_reducible rfl))) | ((with_reducible refine AW.cond_true ?_ ?_); · rfl) | ((with_reducible refine AW.cond_false ?_ ?_); · rfl) | simp (maxSteps := 3000000) (maxDischargeDepth := 12) only [push_cast, appendX, reduceIte, reduceCtorEq, Nat.reduceSub, Nat.reduceAdd, Nat.reduceMul, Nat.reduceLT, Nat.reduceLeDiff, Nat.reduceEqDiff, Nat.reduceBEq, Int.reduceToNat, Int.reduceLT, Int.reduceLE, Int.reduceEq, Int.reduceNeg, Try.results5, dcmr, xt1.2, xt1.ltT, xt1.leT, dc2])
    have dc2 : decide (200 < (r.length : Int)) = false := decide_eq_false (by omega)
    repeat (first | (with_reducible refine AW.seq ?_) | (with_reducible refine AW.block ?_) | (with_reducible refine AW.skip ?_) | (with_reducible refine AW.ret ?_) | (with_reducible refine AW.exit ?_) | (with_reducible refine AW.reg hT ?_) | (with_reducible refine AW.drawn (id := 3) hT [0, 1, 2, 3, 4, 5] [[], [0], [], [2], [0, 1], [0, 1, 2, 3, 4]] mix (by kernel_rfl) ?_) | ((with_reducible apply DLeft.step hT); (case hoi => ((simp only [List.getElem?_toArray, List.getElem?_cons_zero, List.getElem?_cons_succ]); with_reducible rfl)); (case hg => rfl); (case hk => rfl); (case hr => ((try simp (maxSteps := 3000000) (maxDischargeDepth := 12) only [push_cast, appendX, reduceIte, reduceCtorEq, Nat.reduceSub, Nat.reduceAdd, Nat.reduceMul, Nat.reduceLT, Nat.reduceLeDiff, Nat.reduceEqDiff, Nat.reduceBEq, Int.reduceToNat, Int.reduceLT, Int.reduceLE, Int.reduceEq, Int.reduceNeg, Try.results5, dcmr, xt1.2, xt1.ltT, xt1.leT, dc2]); with_reducible rfl))) | ((with_reducible refine AW.cond_true ?_ ?_); · rfl) | ((with_reducible refine AW.cond_false ?_ ?_); · rfl) | simp (maxSteps := 3000000) (maxDischargeDepth := 12) only [push_cast, appendX, reduceIte, reduceCtorEq, Nat.reduceSub, Nat.reduceAdd, Nat.reduceMul, Nat.reduceLT, Nat.reduceLeDiff, Nat.reduceEqDiff, Nat.reduceBEq, Int.reduceToNat, Int.reduceLT, Int.reduceLE, Int.reduceEq, Int.reduceNeg, Try.results5, dcmr, xt1.2, xt1.ltT, xt1.leT, dc2])
    refine AOpsL.call (first := []) (cap := []) hT rfl rfl rfl fn11 rfl (ACalls.mono (proute_ok _ l r hs (by omega)) ?_)
    rintro y σ2 ⟨rfl, xt2⟩
    by_cases he : (rtv l r).2 = 0
    · have dce : ((rtv l r).2 == 0) = true := by simpa using he
      obtain ⟨hr2, hr16, hrt⟩ := rtv_ok he
      have dcr1 : ((0 : Int) < (r.length : Int)) = True := by simp; omega
      have hget : ∀ i, i < r.length → (r.map eZ)[i]? = some [.sc (.int .i64 (r.getD i 0))] := fun i hi => by
        rw [List.getElem?_map, List.getD_eq_getElem?_getD, List.getElem?_eq_getElem hi]; rfl
      have dcg0 := hget 0 (by omega)
      repeat ((fail_if_success (with_reducible refine AW.at1 (id := 9) ?_)); (fail_if_success (with_reducible refine AW.at2 (id := 9) ?_)); first | (with_reducible refine AW.seq ?_) | (with_reducible refine AW.block ?_) | (with_reducible refine AW.skip ?_) | (with_reducible refine AW.ret ?_) | (with_reducible refine AW.exit ?_) | (with_reducible refine AW.reg hT ?_) | (with_reducible refine AW.drawn (id := 3) hT [0, 1, 2, 3, 4, 5] [[], [0], [], [2], [0, 1], [0, 1, 2, 3, 4]] mix (by kernel_rfl) ?_) | ((with_reducible apply DLeft.step hT); (case hoi => ((simp only [List.getElem?_toArray, List.getElem?_cons_zero, List.getElem?_cons_succ]); with_reducible rfl)); (case hg => rfl); (case hk => rfl); (case hr => ((try simp (maxSteps := 3000000) (maxDischargeDepth := 12) only [push_cast, appendX, reduceIte, reduceCtorEq, Nat.reduceSub, Nat.reduceAdd, Nat.reduceMul, Nat.reduceLT, Nat.reduceLeDiff, Nat.reduceEqDiff, Nat.reduceBEq, Int.reduceToNat, Int.reduceLT, Int.reduceLE, Int.reduceEq, Int.reduceNeg, Try.results5, dcmr, xt1.2, xt1.ltT, xt1.leT, dc2, xt2.2, xt2.ltT, xt2.leT, dce, dcr1, dcg0]); with_reducible rfl))) | ((with_reducible refine AW.cond_true ?_ ?_); · rfl) | ((with_reducible refine AW.cond_false ?_ ?_); · rfl) | simp (maxSteps := 3000000) (maxDischargeDepth := 12) only [push_cast, appendX, reduceIte, reduceCtorEq, Nat.reduceSub, Nat.reduceAdd, Nat.reduceMul, Nat.reduceLT, Nat.reduceLeDiff, Nat.reduceEqDiff, Nat.reduceBEq, Int.reduceToNat, Int.reduceLT, Int.reduceLE, Int.reduceEq, Int.reduceNeg, Try.results5, dcmr, xt1.2, xt1.ltT, xt1.leT, dc2, xt2.2, xt2.ltT, xt2.leT, dce, dcr1, dcg0])
      refine AW.seqK (fun ts _ => TellsL ts (.any :: .imm (r.map eZ) :: .sc (.int .u8 c) :: .any :: .any :: .any :: .any :: .any :: .imm (l.map eK) :: .sc (.int .i64 (rtv l r).1) :: .any :: .any :: .any :: .any :: .any :: .any :: .any :: .any :: .any :: .any :: .any :: .any :: .any :: .any :: .any :: .any :: .any :: .any :: .any :: .any :: .any :: .any :: .any :: .any :: .any :: .any :: .any :: .any :: .any :: .any :: .any :: .any :: .any :: .any :: .any :: .any :: .any :: .any :: .any :: .any :: .any :: .any :: .any :: .any :: .any :: .any :: .any :: .any :: .any :: .any :: .any :: .any :: .any :: .any :: .any :: .any :: .any :: .any :: .any :: .any :: .any :: .any :: .any :: .any :: .any :: .any :: .any :: .any :: .any :: .any :: .any :: .any :: .any :: .any :: .any :: .any :: .any :: .any :: .any :: .any :: .any :: .any :: .any :: .any :: .any :: .any :: .any :: .any :: .any :: .any :: .any :: .any :: .any :: .any :: .any :: .any :: .any :: .any :: .any :: .any :: .any :: .any :: .any :: .any :: .any :: .any :: .any :: .any :: .any :: [])) ?_ ?_
      · repeat (first | (with_reducible refine AW.seq ?_) | (with_reducible refine AW.block ?_) | (with_reducible refine AW.skip ?_) | (with_reducible refine AW.ret ?_) | (with_reducible refine AW.exit ?_) | (with_reducible refine AW.reg hT ?_) | (with_reducible refine AW.drawn (id := 3) hT [0, 1, 2, 3, 4, 5] [[], [0], [], [2], [0, 1], [0, 1, 2, 3, 4]] mix (by kernel_rfl) ?_) | ((with_reducible apply DLeft.step hT); (case hoi => ((simp only [List.getElem?_toArray, List.getElem?_cons_zero, List.getElem?_cons_succ]); with_reducible rfl)); (case hg => rfl); (case hk => rfl); (case hr => ((try simp (maxSteps := 3000000) (maxDischargeDepth := 12) only [push_cast, appendX, reduceIte, reduceCtorEq, Nat.reduceSub, Nat.reduceAdd, Nat.reduceMul, Nat.reduceLT, Nat.reduceLeDiff, Nat.reduceEqDiff, Nat.reduceBEq, Int.reduceToNat, Int.reduceLT, Int.reduceLE, Int.reduceEq, Int.reduceNeg, Try.results5, dcmr, xt1.2, xt1.ltT, xt1.leT, dc2, xt2.2, xt2.ltT, xt2.leT, dce, dcr1, dcg0]); with_reducible rfl))) | ((with_reducible refine AW.cond_true ?_ ?_); · rfl) | ((with_reducible refine AW.cond_false ?_ ?_); · rfl) | simp (maxSteps := 3000000) (maxDischargeDepth := 12) only [push_cast, appendX, reduceIte, reduceCtorEq, Nat.reduceSub, Nat.reduceAdd, Nat.reduceMul, Nat.reduceLT, Nat.reduceLeDiff, Nat.reduceEqDiff, Nat.reduceBEq, Int.reduceToNat, Int.reduceLT, Int.reduceLE, Int.reduceEq, Int.reduceNeg, Try.results5, dcmr, xt1.2, xt1.ltT, xt1.leT, dc2, xt2.2, xt2.ltT, xt2.leT, dce, dcr1, dcg0])
        refine AOpsL.call (first := []) (cap := []) hT rfl rfl rfl fn15 rfl (ACalls.mono (pcheck_ok _ N l hwn) ?_)
        rintro y σ3 ⟨rfl, xt3⟩
        by_cases hc : chk N l = 0
        · have dcc : (chk N l == 0) = true := by simpa using hc
          repeat (first | (with_reducible refine AW.seq ?_) | (with_reducible refine AW.block ?_) | (with_reducible refine AW.skip ?_) | (with_reducible refine AW.ret ?_) | (with_reducible refine AW.exit ?_) | (with_reducible refine AW.reg hT ?_) | (with_reducible refine AW.drawn (id := 3) hT [0, 1, 2, 3, 4, 5] [[], [0], [], [2], [0, 1], [0, 1, 2, 3, 4]] mix (by kernel_rfl) ?_) | ((with_reducible apply DLeft.step hT); (case hoi => ((simp only [List.getElem?_toArray, List.getElem?_cons_zero, List.getElem?_cons_succ]); with_reducible rfl)); (case hg => rfl); (case hk => rfl); (case hr => ((try simp (maxSteps := 3000000) (maxDischargeDepth := 12) only [push_cast, appendX, reduceIte, reduceCtorEq, Nat.reduceSub, Nat.reduceAdd, Nat.reduceMul, Nat.reduceLT, Nat.reduceLeDiff, Nat.reduceEqDiff, Nat.reduceBEq, Int.reduceToNat, Int.reduceLT, Int.reduceLE, Int.reduceEq, Int.reduceNeg, Try.results5, dcmr, xt1.2, xt1.ltT, xt1.leT, dc2, xt2.2, xt2.ltT, xt2.leT, dce, dcr1, dcg0, xt3.2, xt3.ltT, xt3.leT, dcc]); with_reducible rfl))) | ((with_reducible refine AW.cond_true ?_ ?_); · rfl) | ((with_reducible refine AW.cond_false ?_ ?_); · rfl) | simp (maxSteps := 3000000) (maxDischargeDepth := 12) only [push_cast, appendX, reduceIte, reduceCtorEq, Nat.reduceSub, Nat.reduceAdd, Nat.reduceMul, Nat.reduceLT, Nat.reduceLeDiff, Nat.reduceEqDiff, Nat.reduceBEq, Int.reduceToNat, Int.reduceLT, Int.reduceLE, Int.reduceEq, Int.reduceNeg, Try.results5, dcmr, xt1.2, xt1.ltT, xt1.leT, dc2, xt2.2, xt2.ltT, xt2.leT, dce, dcr1, dcg0, xt3.2, xt3.ltT, xt3.leT, dcc])
          refine AOpsL.call (first := []) (cap := []) hT rfl rfl rfl fn13 rfl (ACalls.mono (reach_ok _ N l (r.getD 0 0) hwn) ?_)
          rintro y σ4 ⟨out, ho, rfl, xt4⟩
          have hreach := rt_reach hc hr2 hrt ho
          repeat (first | (with_reducible refine AW.seq ?_) | (with_reducible refine AW.block ?_) | (with_reducible refine AW.skip ?_) | (with_reducible refine AW.ret ?_) | (with_reducible refine AW.exit ?_) | (with_reducible refine AW.reg hT ?_) | (with_reducible refine AW.drawn (id := 3) hT [0, 1, 2, 3, 4, 5] [[], [0], [], [2], [0, 1], [0, 1, 2, 3, 4]] mix (by kernel_rfl) ?_) | ((with_reducible apply DLeft.step hT); (case hoi => ((simp only [List.getElem?_toArray, List.getElem?_cons_zero, List.getElem?_cons_succ]); with_reducible rfl)); (case hg => rfl); (case hk => rfl); (case hr => ((try simp (maxSteps := 3000000) (maxDischargeDepth := 12) only [push_cast, appendX, reduceIte, reduceCtorEq, Nat.reduceSub, Nat.reduceAdd, Nat.reduceMul, Nat.reduceLT, Nat.reduceLeDiff, Nat.reduceEqDiff, Nat.reduceBEq, Int.reduceToNat, Int.reduceLT, Int.reduceLE, Int.reduceEq, Int.reduceNeg, Try.results5, dcmr, xt1.2, xt1.ltT, xt1.leT, dc2, xt2.2, xt2.ltT, xt2.leT, dce, dcr1, dcg0, xt3.2, xt3.ltT, xt3.leT, dcc, xt4.2, xt4.ltT, xt4.leT]); with_reducible rfl))) | ((with_reducible refine AW.cond_true ?_ ?_); · rfl) | ((with_reducible refine AW.cond_false ?_ ?_); · rfl) | simp (maxSteps := 3000000) (maxDischargeDepth := 12) only [push_cast, appendX, reduceIte, reduceCtorEq, Nat.reduceSub, Nat.reduceAdd, Nat.reduceMul, Nat.reduceLT, Nat.reduceLeDiff, Nat.reduceEqDiff, Nat.reduceBEq, Int.reduceToNat, Int.reduceLT, Int.reduceLE, Int.reduceEq, Int.reduceNeg, Try.results5, dcmr, xt1.2, xt1.ltT, xt1.leT, dc2, xt2.2, xt2.ltT, xt2.leT, dce, dcr1, dcg0, xt3.2, xt3.ltT, xt3.leT, dcc, xt4.2, xt4.ltT, xt4.leT])
          refine AW.loop (gpI r l c (rtv l r).1 out σ) (m := r.length + 1) ⟨0, rfl, Nat.zero_le _, by (simp only [push_cast, TellsL, tells_any, tells_refl])⟩ ?_
          clear xt1 xt2 xt3 xt4
          rintro m ts σ5 ⟨i, rfl, hil, hts⟩
          refine AW.told hts ?_
          clear hts
          have dcol : (out.map eB).length = out.length := by simp
          by_cases hi : i < r.length
          · have dci : decide ((i : Int) < (r.length : Int)) = true := decide_eq_true (by omega)
            have dci2 : ((i : Int) < (r.length : Int)) = True := by simp; omega
            have dci0 : ((0 : Int) ≤ (i : Int)) = True := by simp
            have dcgi := hget i hi
            have dcw : IntKind.i64.wrap ((i : Int) + 1) = (i : Int) + 1 := wrap_i64 (by omega) (by omega)
            obtain ⟨q1, q2, q3⟩ := hreach i hi
            obtain ⟨w, hw⟩ := Int.eq_ofNat_of_zero_le q1
            rw [hw] at dcgi q2 q3
            have dcw1 : decide ((w : Int) < 0) = false := decide_eq_false (by omega)
            have dcw2 : decide ((out.length : Int) ≤ (w : Int)) = false := decide_eq_false (by omega)
            have dcw3 : ((w : Int) < (out.length : Int)) = True := by simp; omega
            have dcw4 : ((0 : Int) ≤ (w : Int)) = True := by simp
            have dcow : (out.map eB)[w]? = some [.sc (.bool true)] := by rw [List.getElem?_map]; rw [Int.toNat_natCast] at q3; rw [q3]; rfl
            repeat (first | (with_reducible refine AW.seq ?_) | (with_reducible refine AW.block ?_) | (with_reducible refine AW.skip ?_) | (with_reducible refine AW.ret ?_) | (with_reducible refine AW.exit ?_) | (with_reducible refine AW.reg hT ?_) | (with_reducible refine AW.drawn (id := 3) hT [0, 1, 2, 3, 4, 5] [[], [0], [], [2], [0, 1], [0, 1, 2, 3, 4]] mix (by kernel_rfl) ?_) | ((with_reducible apply DLeft.step hT); (case hoi => ((simp only [List.getElem?_toArray, List.getElem?_cons_zero, List.getElem?_cons_succ]); with_reducible rfl)); (case hg => rfl); (case hk => rfl); (case hr => ((try simp (maxSteps := 3000000) (maxDischargeDepth := 12) only [push_cast, appendX, reduceIte, reduceCtorEq, Nat.reduceSub, Nat.reduceAdd, Nat.reduceMul, Nat.reduceLT, Nat.reduceLeDiff, Nat.reduceEqDiff, Nat.reduceBEq, Int.reduceToNat, Int.reduceLT, Int.reduceLE, Int.reduceEq, Int.reduceNeg, Try.results5, dcmr, dc2, dce, dcr1, dcg0, dcc, dcol, dci, dci2, dci0, dcgi, dcw, dcw1, dcw2, dcw3, dcw4, dcow]); with_reducible rfl))) | ((with_reducible refine AW.cond_true ?_ ?_); · rfl) | ((with_reducible refine AW.cond_false ?_ ?_); · rfl) | simp (maxSteps := 3000000) (maxDischargeDepth := 12) only [push_cast, appendX, reduceIte, reduceCtorEq, Nat.reduceSub, Nat.reduceAdd, Nat.reduceMul, Nat.reduceLT, Nat.reduceLeDiff, Nat.reduceEqDiff, Nat.reduceBEq, Int.reduceToNat, Int.reduceLT, Int.reduceLE, Int.reduceEq, Int.reduceNeg, Try.results5, dcmr, dc2, dce, dcr1, dcg0, dcc, dcol, dci, dci2, dci0, dcgi, dcw, dcw1, dcw2, dcw3, dcw4, dcow])
            exact ⟨r.length + 1 - (i + 1), by omega, i + 1, rfl, hi, by (simp only [push_cast, TellsL, tells_any, tells_refl])⟩
          · have dci : decide ((i : Int) < (r.length : Int)) = false := decide_eq_false (by omega)
            repeat (first | (with_reducible refine AW.seq ?_) | (with_reducible refine AW.block ?_) | (with_reducible refine AW.skip ?_) | (with_reducible refine AW.ret ?_) | (with_reducible refine AW.exit ?_) | (with_reducible refine AW.reg hT ?_) | (with_reducible refine AW.drawn (id := 3) hT [0, 1, 2, 3, 4, 5] [[], [0], [], [2], [0, 1], [0, 1, 2, 3, 4]] mix (by kernel_rfl) ?_) | ((with_reducible apply DLeft.step hT); (case hoi => ((simp only [List.getElem?_toArray, List.getElem?_cons_zero, List.getElem?_cons_succ]); with_reducible rfl)); (case hg => rfl); (case hk => rfl); (case hr => ((try simp (maxSteps := 3000000) (maxDischargeDepth := 12) only [push_cast, appendX, reduceIte, reduceCtorEq, Nat.reduceSub, Nat.reduceAdd, Nat.reduceMul, Nat.reduceLT, Nat.reduceLeDiff, Nat.reduceEqDiff, Nat.reduceBEq, Int.reduceToNat, Int.reduceLT, Int.reduceLE, Int.reduceEq, Int.reduceNeg, Try.results5, dcmr, dc2, dce, dcr1, dcg0, dcc, dcol, dci]); with_reducible rfl))) | ((with_reducible refine AW.cond_true ?_ ?_); · rfl) | ((with_reducible refine AW.cond_false ?_ ?_); · rfl) | simp (maxSteps := 3000000) (maxDischargeDepth := 12) only [push_cast, appendX, reduceIte, reduceCtorEq, Nat.reduceSub, Nat.reduceAdd, Nat.reduceMul, Nat.reduceLT, Nat.reduceLeDiff, Nat.reduceEqDiff, Nat.reduceBEq, Int.reduceToNat, Int.reduceLT, Int.reduceLE, Int.reduceEq, Int.reduceNeg, Try.results5, dcmr, dc2, dce, dcr1, dcg0, dcc, dcol, dci])
            (simp only [push_cast, TellsL, tells_any, tells_refl])
        · have dcc : (chk N l == 0) = false := by simpa using hc
          repeat (first | (with_reducible refine AW.seq ?_) | (with_reducible refine AW.block ?_) | (with_reducible refine AW.skip ?_) | (with_reducible refine AW.ret ?_) | (with_reducible refine AW.exit ?_) | (with_reducible refine AW.reg hT ?_) | (with_reducible refine AW.drawn (id := 3) hT [0, 1, 2, 3, 4, 5] [[], [0], [], [2], [0, 1], [0, 1, 2, 3, 4]] mix (by kernel_rfl) ?_) | ((with_reducible apply DLeft.step hT); (case hoi => ((simp only [List.getElem?_toArray, List.getElem?_cons_zero, List.getElem?_cons_succ]); with_reducible rfl)); (case hg => rfl); (case hk => rfl); (case hr => ((try simp (maxSteps := 3000000) (maxDischargeDepth := 12) only [push_cast, appendX, reduceIte, reduceCtorEq, Nat.reduceSub, Nat.reduceAdd, Nat.reduceMul, Nat.reduceLT, Nat.reduceLeDiff, Nat.reduceEqDiff, Nat.reduceBEq, Int.reduceToNat, Int.reduceLT, Int.reduceLE, Int.reduceEq, Int.reduceNeg, Try.results5, dcmr, dc2, dce, dcr1, dcg0, dcc]); with_reducible rfl))) | ((with_reducible refine AW.cond_true ?_ ?_); · rfl) | ((with_reducible refine AW.cond_false ?_ ?_); · rfl) | simp (maxSteps := 3000000) (maxDischargeDepth := 12) only [push_cast, appendX, reduceIte, reduceCtorEq, Nat.reduceSub, Nat.reduceAdd, Nat.reduceMul, Nat.reduceLT, Nat.reduceLeDiff, Nat.reduceEqDiff, Nat.reduceBEq, Int.reduceToNat, Int.reduceLT, Int.reduceLE, Int.reduceEq, Int.reduceNeg, Try.results5, dcmr, dc2, dce, dcr1, dcg0, dcc])
          (simp only [push_cast, TellsL, tells_any, tells_refl])
      · clear xt1 xt2
        rintro ts σ3 hts
        refine AW.told hts ?_
        clear hts
        have dcwc : IntKind.i64.wrap c = c := wrap_i64 (by omega) (by omega)
        obtain ⟨k, hk⟩ := Int.eq_ofNat_of_zero_le (show 0 ≤ c % (r.length : Int) from Int.emod_nonneg _ (by omega))
        have hklt : (k : Int) < (r.length : Int) := by rw [← hk]; exact Int.emod_lt_of_pos _ (by omega)
        have dcrem : c.tmod (r.length : Int) = (k : Int) := by rw [Int.tmod_eq_emod_of_nonneg hcb.1]; exact hk
        have dclz : ((r.length : Int) = 0) = False := eq_false (by omega)
        have dclz2 : ((r.length : Int) == 0) = false := beq_eq_false_iff_ne.2 (by omega)
        have dcwk1 : IntKind.i64.wrap ((k : Int) + 1) = (k : Int) + 1 := wrap_i64 (by omega) (by omega)
        have dcwl1 : IntKind.i64.wrap ((r.length : Int) - 1) = (r.length : Int) - 1 := wrap_i64 (by omega) (by omega)
        have dcwr : IntKind.i64.wrap (k : Int) = (k : Int) := wrap_i64 (by omega) (by omega)
        by_cases hk0 : k = 0
        · have dck0 : ((k : Int) == 0) = true := by simp [hk0]
          repeat (first | (with_reducible refine AW.seq ?_) | (with_reducible refine AW.block ?_) | (with_reducible refine AW.skip ?_) | (with_reducible refine AW.ret ?_) | (with_reducible refine AW.exit ?_) | (with_reducible refine AW.reg hT ?_) | (with_reducible refine AW.drawn (id := 3) hT [0, 1, 2, 3, 4, 5] [[], [0], [], [2], [0, 1], [0, 1, 2, 3, 4]] mix (by kernel_rfl) ?_) | ((with_reducible apply DLeft.step hT); (case hoi => ((simp only [List.getElem?_toArray, List.getElem?_cons_zero, List.getElem?_cons_succ]); with_reducible rfl)); (case hg => rfl); (case hk => rfl); (case hr => ((try simp (maxSteps := 3000000) (maxDischargeDepth := 12) only [push_cast, appendX, reduceIte, reduceCtorEq, Nat.reduceSub, Nat.reduceAdd, Nat.reduceMul, Nat.reduceLT, Nat.reduceLeDiff, Nat.reduceEqDiff, Nat.reduceBEq, Int.reduceToNat, Int.reduceLT, Int.reduceLE, Int.reduceEq, Int.reduceNeg, Try.results5, dcmr, dc2, dce, dcr1, dcg0, dcwc, dcrem, dclz, dclz2, dcwk1, dcwl1, dcwr, dck0]); with_reducible rfl))) | ((with_reducible refine AW.cond_true ?_ ?_); · rfl) | ((with_reducible refine AW.cond_false ?_ ?_); · rfl) | simp (maxSteps := 3000000) (maxDischargeDepth := 12) only [push_cast, appendX, reduceIte, reduceCtorEq, Nat.reduceSub, Nat.reduceAdd, Nat.reduceMul, Nat.reduceLT, Nat.reduceLeDiff, Nat.reduceEqDiff, Nat.reduceBEq, Int.reduceToNat, Int.reduceLT, Int.reduceLE, Int.reduceEq, Int.reduceNeg, Try.results5, dcmr, dc2, dce, dcr1, dcg0, dcwc, dcrem, dclz, dclz2, dcwk1, dcwl1, dcwr, dck0])
        have dck0 : ((k : Int) == 0) = false := by simp [hk0]
        by_cases hk1 : k + 1 = r.length
        · have dck1 : ((k : Int) == (r.length : Int) - 1) = true := by rw [beq_iff_eq]; omega
          repeat (first | (with_reducible refine AW.seq ?_) | (with_reducible refine AW.block ?_) | (with_reducible refine AW.skip ?_) | (with_reducible refine AW.ret ?_) | (with_reducible refine AW.exit ?_) | (with_reducible refine AW.reg hT ?_) | (with_reducible refine AW.drawn (id := 3) hT [0, 1, 2, 3, 4, 5] [[], [0], [], [2], [0, 1], [0, 1, 2, 3, 4]] mix (by kernel_rfl) ?_) | ((with_reducible apply DLeft.step hT); (case hoi => ((simp only [List.getElem?_toArray, List.getElem?_cons_zero, List.getElem?_cons_succ]); with_reducible rfl)); (case hg => rfl); (case hk => rfl); (case hr => ((try simp (maxSteps := 3000000) (maxDischargeDepth := 12) only [push_cast, appendX, reduceIte, reduceCtorEq, Nat.reduceSub, Nat.reduceAdd, Nat.reduceMul, Nat.reduceLT, Nat.reduceLeDiff, Nat.reduceEqDiff, Nat.reduceBEq, Int.reduceToNat, Int.reduceLT, Int.reduceLE, Int.reduceEq, Int.reduceNeg, Try.results5, dcmr, dc2, dce, dcr1, dcg0, dcwc, dcrem, dclz, dclz2, dcwk1, dcwl1, dcwr, dck0, dck1]); with_reducible rfl))) | ((with_reducible refine AW.cond_true ?_ ?_); · rfl) | ((with_reducible refine AW.cond_false ?_ ?_); · rfl) | simp (maxSteps := 3000000) (maxDischargeDepth := 12) only [push_cast, appendX, reduceIte, reduceCtorEq, Nat.reduceSub, Nat.reduceAdd, Nat.reduceMul, Nat.reduceLT, Nat.reduceLeDiff, Nat.reduceEqDiff, Nat.reduceBEq, Int.reduceToNat, Int.reduceLT, Int.reduceLE, Int.reduceEq, Int.reduceNeg, Try.results5, dcmr, dc2, dce, dcr1, dcg0, dcwc, dcrem, dclz, dclz2, dcwk1, dcwl1, dcwr, dck0, dck1])
        have dck1 : ((k : Int) == (r.length : Int) - 1) = false := beq_eq_false_iff_ne.2 (by omega)
        obtain ⟨a, b, ea, eb, eab⟩ := rt_parts he (by omega) (show k + 1 < r.length by omega)
        obtain ⟨k1, hk1'⟩ : ∃ k1, k1 = k + 1 := ⟨_, rfl⟩
        rw [← hk1'] at ea
        have dcall : ((r.map eZ).all fun el => el.length == 1) = true := by simp [eZ]
        have dct1 : (r.map eZ).take k1 = (r.take k1).map eZ := by simp
        have dct2 : ((r.map eZ).take r.length).drop k = (r.drop k).map eZ := by rw [List.take_of_length_le (by simp)]; simp
        have dct3 : (r.map eZ).drop k = (r.drop k).map eZ := by simp
        have dcz1 : ((k : Int) + 1).toNat = k1 := by omega
        have dcz2 : ((0 : Int) ≤ (k : Int) + 1) = True := by simp; omega
        have dcz3 : ((k : Int) + 1 ≤ (r.length : Int)) = True := by simp; omega
        have dcz4 : ((0 : Int) ≤ (k : Int)) = True := by simp
        have dcz5 : ((k : Int) ≤ (r.length : Int)) = True := by simp; omega
        have hba := rtG_bound hs hrt
        repeat (first | (with_reducible refine AW.seq ?_) | (with_reducible refine AW.block ?_) | (with_reducible refine AW.skip ?_) | (with_reducible refine AW.ret ?_) | (with_reducible refine AW.exit ?_) | (with_reducible refine AW.reg hT ?_) | (with_reducible refine AW.drawn (id := 3) hT [0, 1, 2, 3, 4, 5] [[], [0], [], [2], [0, 1], [0, 1, 2, 3, 4]] mix (by kernel_rfl) ?_) | ((with_reducible apply DLeft.step hT); (case hoi => ((simp only [List.getElem?_toArray, List.getElem?_cons_zero, List.getElem?_cons_succ]); with_reducible rfl)); (case hg => rfl); (case hk => rfl); (case hr => ((try simp (maxSteps := 3000000) (maxDischargeDepth := 12) only [push_cast, appendX, reduceIte, reduceCtorEq, Nat.reduceSub, Nat.reduceAdd, Nat.reduceMul, Nat.reduceLT, Nat.reduceLeDiff, Nat.reduceEqDiff, Nat.reduceBEq, Int.reduceToNat, Int.reduceLT, Int.reduceLE, Int.reduceEq, Int.reduceNeg, Try.results5, dcmr, dc2, dce, dcr1, dcg0, dcwc, dcrem, dclz, dclz2, dcwk1, dcwl1, dcwr, dck0, dck1, dcall, dct1, dct2, dct3, dcz1, dcz2, dcz3, dcz4, dcz5]); with_reducible rfl))) | ((with_reducible refine AW.cond_true ?_ ?_); · rfl) | ((with_reducible refine AW.cond_false ?_ ?_); · rfl) | simp (maxSteps := 3000000) (maxDischargeDepth := 12) only [push_cast, appendX, reduceIte, reduceCtorEq, Nat.reduceSub, Nat.reduceAdd, Nat.reduceMul, Nat.reduceLT, Nat.reduceLeDiff, Nat.reduceEqDiff, Nat.reduceBEq, Int.reduceToNat, Int.reduceLT, Int.reduceLE, Int.reduceEq, Int.reduceNeg, Try.results5, dcmr, dc2, dce, dcr1, dcg0, dcwc, dcrem, dclz, dclz2, dcwk1, dcwl1, dcwr, dck0, dck1, dcall, dct1, dct2, dct3, dcz1, dcz2, dcz3, dcz4, dcz5])
        refine AOpsL.call (first := []) (cap := []) hT rfl rfl rfl fn11 rfl (ACalls.mono (proute_ok _ l (r.take k1) hs (by omega)) ?_)
        rw [ea]
        rintro y σ4 ⟨rfl, xt4⟩
        repeat (first | (with_reducible refine AW.seq ?_) | (with_reducible refine AW.block ?_) | (with_reducible refine AW.skip ?_) | (with_reducible refine AW.ret ?_) | (with_reducible refine AW.exit ?_) | (with_reducible refine AW.reg hT ?_) | (with_reducible refine AW.drawn (id := 3) hT [0, 1, 2, 3, 4, 5] [[], [0], [], [2], [0, 1], [0, 1, 2, 3, 4]] mix (by kernel_rfl) ?_) | ((with_reducible apply DLeft.step hT); (case hoi => ((simp only [List.getElem?_toArray, List.getElem?_cons_zero, List.getElem?_cons_succ]); with_reducible rfl)); (case hg => rfl); (case hk => rfl); (case hr => ((try simp (maxSteps := 3000000) (maxDischargeDepth := 12) only [push_cast, appendX, reduceIte, reduceCtorEq, Nat.reduceSub, Nat.reduceAdd, Nat.reduceMul, Nat.reduceLT, Nat.reduceLeDiff, Nat.reduceEqDiff, Nat.reduceBEq, Int.reduceToNat, Int.reduceLT, Int.reduceLE, Int.reduceEq, Int.reduceNeg, Try.results5, dcmr, dc2, dce, dcr1, dcg0, dcwc, dcrem, dclz, dclz2, dcwk1, dcwl1, dcwr, dck0, dck1, dcall, dct1, dct2, dct3, dcz1, dcz2, dcz3, dcz4, dcz5, xt4.2, xt4.ltT, xt4.leT]); with_reducible rfl))) | ((with_reducible refine AW.cond_true ?_ ?_); · rfl) | ((with_reducible refine AW.cond_false ?_ ?_); · rfl) | simp (maxSteps := 3000000) (maxDischargeDepth := 12) only [push_cast, appendX, reduceIte, reduceCtorEq, Nat.reduceSub, Nat.reduceAdd, Nat.reduceMul, Nat.reduceLT, Nat.reduceLeDiff, Nat.reduceEqDiff, Nat.reduceBEq, Int.reduceToNat, Int.reduceLT, Int.reduceLE, Int.reduceEq, Int.reduceNeg, Try.results5, dcmr, dc2, dce, dcr1, dcg0, dcwc, dcrem, dclz, dclz2, dcwk1, dcwl1, dcwr, dck0, dck1, dcall, dct1, dct2, dct3, dcz1, dcz2, dcz3, dcz4, dcz5, xt4.2, xt4.ltT, xt4.leT])
        refine AOpsL.call (first := []) (cap := []) hT rfl rfl rfl fn11 rfl (ACalls.mono (proute_ok _ l (r.drop k) hs (by omega)) ?_)
        rw [eb]
        rintro y σ5 ⟨rfl, xt5⟩
        have dcwab : IntKind.i64.wrap (a + b) = (rtv l r).1 := by rw [eab]; exact wrap_i64 (by omega) (by omega)
        have dcq : ((rtv l r).1 == (rtv l r).1) = true := by simp
        repeat (first | (with_reducible refine AW.seq ?_) | (with_reducible refine AW.block ?_) | (with_reducible refine AW.skip ?_) | (with_reducible refine AW.ret ?_) | (with_reducible refine AW.exit ?_) | (with_reducible refine AW.reg hT ?_) | (with_reducible refine AW.drawn (id := 3) hT [0, 1, 2, 3, 4, 5] [[], [0], [], [2], [0, 1], [0, 1, 2, 3, 4]] mix (by kernel_rfl) ?_) | ((with_reducible apply DLeft.step hT); (case hoi => ((simp only [List.getElem?_toArray, List.getElem?_cons_zero, List.getElem?_cons_succ]); with_reducible rfl)); (case hg => rfl); (case hk => rfl); (case hr => ((try simp (maxSteps := 3000000) (maxDischargeDepth := 12) only [push_cast, appendX, reduceIte, reduceCtorEq, Nat.reduceSub, Nat.reduceAdd, Nat.reduceMul, Nat.reduceLT, Nat.reduceLeDiff, Nat.reduceEqDiff, Nat.reduceBEq, Int.reduceToNat, Int.reduceLT, Int.reduceLE, Int.reduceEq, Int.reduceNeg, Try.results5, dcmr, dc2, dce, dcr1, dcg0, dcwc, dcrem, dclz, dclz2, dcwk1, dcwl1, dcwr, dck0, dck1, dcall, dct1, dct2, dct3, dcz1, dcz2, dcz3, dcz4, dcz5, xt4.2, xt4.ltT, xt4.leT, xt5.2, xt5.ltT, xt5.leT, dcwab, dcq]); with_reducible rfl))) | ((with_reducible refine AW.cond_true ?_ ?_); · rfl) | ((with_reducible refine AW.cond_false ?_ ?_); · rfl) | simp (maxSteps := 3000000) (maxDischargeDepth := 12) only [push_cast, appendX, reduceIte, reduceCtorEq, Nat.reduceSub, Nat.reduceAdd, Nat.reduceMul, Nat.reduceLT, Nat.reduceLeDiff, Nat.reduceEqDiff, Nat.reduceBEq, Int.reduceToNat, Int.reduceLT, Int.reduceLE, Int.reduceEq, Int.reduceNeg, Try.results5, dcmr, dc2, dce, dcr1, dcg0, dcwc, dcrem, dclz, dclz2, dcwk1, dcwl1, dcwr, dck0, dck1, dcall, dct1, dct2, dct3, dcz1, dcz2, dcz3, dcz4, dcz5, xt4.2, xt4.ltT, xt4.leT, xt5.2, xt5.ltT, xt5.leT, dcwab, dcq])
    · have dce : ((rtv l r).2 == 0) = false := by simpa using he
      have hz := rtv_no he
      rw [hz]
      repeat (first | (with_reducible refine AW.seq ?_) | (with_reducible refine AW.block ?_) | (with_reducible refine AW.skip ?_) | (with_reducible refine AW.ret ?_) | (with_reducible refine AW.exit ?_) | (with_reducible refine AW.reg hT ?_) | (with_reducible refine AW.drawn (id := 3) hT [0, 1, 2, 3, 4, 5] [[], [0], [], [2], [0, 1], [0, 1, 2, 3, 4]] mix (by kernel_rfl) ?_) | ((with_reducible apply DLeft.step hT); (case hoi => ((simp only [List.getElem?_toArray, List.getElem?_cons_zero, List.getElem?_cons_succ]); with_reducible rfl)); (case hg => rfl); (case hk => rfl); (case hr => ((try simp (maxSteps := 3000000) (maxDischargeDepth := 12) only [push_cast, appendX, reduceIte, reduceCtorEq, Nat.reduceSub, Nat.reduceAdd, Nat.reduceMul, Nat.reduceLT, Nat.reduceLeDiff, Nat.reduceEqDiff, Nat.reduceBEq, Int.reduceToNat, Int.reduceLT, Int.reduceLE, Int.reduceEq, Int.reduceNeg, Try.results5, dcmr, dc2, dce]); with_reducible rfl))) | ((with_reducible refine AW.cond_true ?_ ?_); · rfl) | ((with_reducible refine AW.cond_false ?_ ?_); · rfl) | simp (maxSteps := 3000000) (maxDischargeDepth := 12) only [push_cast, appendX, reduceIte, reduceCtorEq, Nat.reduceSub, Nat.reduceAdd, Nat.reduceMul, Nat.reduceLT, Nat.reduceLeDiff, Nat.reduceEqDiff, Nat.reduceBEq, Int.reduceToNat, Int.reduceLT, Int.reduceLE, Int.reduceEq, Int.reduceNeg, Try.results5, dcmr, dc2, dce])
end Go.Proofs.Ytpigelcckiejiaa.Cm
