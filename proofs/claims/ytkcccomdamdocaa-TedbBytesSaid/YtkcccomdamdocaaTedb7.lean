/- Package tedb's Encode. -/
import Derived.Test.YtkcccomdamdocaaTedb6
namespace Go.Proofs.Ytkcccomdamdocaa.Cm
open Go.RowKit
set_option linter.unusedVariables false
set_option linter.unusedSimpArgs false
set_option maxRecDepth 20000
set_option maxHeartbeats 8000000
def digsB (l : List (Nat × Int)) : List Int := l.flatMap (fun p => digits p.1 p.2)
theorem digsB_take {l : List (Nat × Int)} {j : Nat} (h : j < l.length) : digsB (l.take (j + 1)) = digsB (l.take j) ++ digits l[j].1 l[j].2 := by
  rw [List.take_add_one, List.getElem?_eq_getElem h]; simp only [digsB, List.flatMap_append, Option.toList_some, List.flatMap_cons, List.flatMap_nil, List.append_nil]
theorem digsB_len : ∀ (l : List (Nat × Int)), (∀ p ∈ l, p.1 ≤ 8) → (digsB l).length ≤ 8 * l.length
  | [], _ => by simp [digsB]
  | p :: l, h => by
    have h1 := h p (by simp)
    have h2 := digsB_len l (fun q hq => h q (by simp [hq]))
    have h3 := digits_length p.1 p.2
    simp only [digsB, List.flatMap_cons, List.length_append, List.length_cons] at h2 ⊢
    omega
def bytA (a : Ad) : List Int := digsB (nums a 8)
def bytsA (l : List Ad) : List Int := l.flatMap bytA
theorem bytsA_take {l : List Ad} {i : Nat} (h : i < l.length) : bytsA (l.take (i + 1)) = bytsA (l.take i) ++ bytA l[i] := by
  rw [List.take_add_one, List.getElem?_eq_getElem h]; simp only [bytsA, List.flatMap_append, Option.toList_some, List.flatMap_cons, List.flatMap_nil, List.append_nil]
theorem nums_len (a : Ad) : (nums a 8).length = 16 := rfl
theorem bytA_len (a : Ad) (h : ∀ p ∈ nums a 8, p.1 ≤ 8) : (bytA a).length ≤ 128 := by
  have := digsB_len _ h; rw [nums_len] at this; exact this
theorem nums_le (a : Ad) : ∀ p ∈ nums a 8, p.1 ≤ 8 := by
  intro p hp
  rcases List.mem_append.1 hp with hp | hp
  · simp only [numsB, List.mem_cons, List.not_mem_nil, or_false] at hp
    rcases hp with rfl | rfl | rfl | rfl | rfl | rfl | rfl | rfl <;> simp
  · obtain ⟨j, _, rfl⟩ := List.mem_map.1 hp
    simp
theorem bytsA_len : ∀ (l : List Ad), (bytsA l).length ≤ 128 * l.length
  | [] => by simp [bytsA]
  | x :: l => by
    have h1 := bytA_len x (nums_le x)
    have h2 := bytsA_len l
    simp only [bytsA, List.flatMap_cons, List.length_append, List.length_cons] at h2 ⊢
    omega
def encT (l : List Ad) : List Int × Int := if 64 < l.length then ([], 3) else if ∀ x ∈ l, mayA x then (bytsA l, 0) else ([], 2)
def teI (l : List Ad) (σ0 : Heap) (m : Nat) (ts : List DV) (σ : Heap) : Prop := ∃ i d, m = l.length + 1 - i ∧ i ≤ l.length ∧ (∀ x ∈ l.take i, mayA x) ∧ Hold σ d 5 (bytesD (bytsA (l.take i))) ∧ (∀ q ∈ tOf d, σ0.n ≤ q) ∧ Ext [] σ0 σ ∧ TellsL ts (.any :: .any :: .any :: .any :: d :: .any :: .any :: .any :: .any :: .any :: .any :: .any :: .imm (l.map eA) :: .sc (.int .i64 l.length) :: .sc (.int .i64 i) :: .any :: .any :: .any :: .any :: .any :: .any :: .any :: .any :: .any :: .any :: .any :: .any :: .any :: .any :: .any :: .any :: .any :: .any :: .any :: .any :: .any :: .any :: .any :: .any :: .any :: [])
def teJ (l : List Ad) (i : Nat) (x : Ad) (acc : List Int) (σ0 : Heap) (m : Nat) (ts : List DV) (σ : Heap) : Prop := ∃ j d, m = 17 - j ∧ j ≤ 16 ∧ Hold σ d 5 (bytesD (acc ++ digsB ((nums x 8).take j))) ∧ (∀ q ∈ tOf d, σ0.n ≤ q) ∧ Ext [] σ0 σ ∧ TellsL ts (.any :: .any :: .any :: .any :: d :: .any :: .any :: .any :: .any :: .any :: .any :: .any :: .imm (l.map eA) :: .sc (.int .i64 l.length) :: .sc (.int .i64 i) :: .any :: .any :: .any :: .any :: .any :: .any :: .any :: .imm ((nums x 8).map eN) :: .sc (.int .i64 16) :: .sc (.int .i64 j) :: .any :: .any :: .any :: .any :: .any :: .any :: .any :: .any :: .any :: .any :: .any :: .any :: .any :: .any :: .any :: [])
theorem tencode_ok (σ : Heap) (l : List Ad) (hw : ∀ x ∈ l, wA x) : ACalls Try.prog 24 [.imm (l.map eA)] σ (fun x σ' => x = .tup [.imm (bytesD (encT l).1), .sc (.int .i64 (encT l).2)] ∧ Ext [] σ σ') := by
  have dcml : (l.map eA).length = l.length := by simp
  refine ACalls.toImmG (e := 5) (els := bytesD (encT l).1) (fun d => .tup [d, .sc (.int .i64 (encT l).2)]) ?_ ?_ ?_
  · intro t m es d d' h
    obtain ⟨h1, h2⟩ := FZL.spec (t := t) (m := m) (els := es) (l := [d, .sc (.int .i64 (encT l).2)]) (l' := [d', .sc (.int .i64 (encT l).2)]) ⟨h, .keep _, trivial⟩
    exact .tup h1 h2
  · exact Tells.tup ⟨Tells.nil, Tells.refl _, trivial⟩
  refine ACalls.code hT Try.func24 rfl ?_
  simp only [Try.ntmps24, List.length_cons, List.length_nil, Nat.reduceSub, Nat.reduceAdd, List.replicate, List.cons_append, List.nil_append]
  by_cases h64 : 64 < l.length
  · have dc64 : decide (64 < (l.length : Int)) = true := by simp; omega
    have e1 : encT l = ([], 3) := by simp [encT, h64]
    repeat (first | (with_reducible refine AW.seq ?_) | (with_reducible refine AW.block ?_) | (with_reducible refine AW.skip ?_) | (with_reducible refine AW.ret ?_) | (with_reducible refine AW.exit ?_) | (with_reducible refine AW.reg hT ?_) | ((with_reducible refine AW.cond_true ?_ ?_); · rfl) | ((with_reducible refine AW.cond_false ?_ ?_); · rfl) | simp (maxSteps := 3000000) (maxDischargeDepth := 12) only [push_cast,appendX,reduceIte,reduceCtorEq,Nat.reduceSub,Nat.reduceAdd,Nat.reduceMul,Nat.reduceLT,Nat.reduceLeDiff,Nat.reduceEqDiff,Nat.reduceBEq,Int.reduceToNat,Int.reduceLT,Int.reduceLE,Int.reduceEq,Int.reduceNeg,Try.results24,dcml,dc64])
    refine ⟨_, by rw [e1], by rw [e1]; exact Hold.nil _ _, by simp [tOf], Ext.refl _ _⟩
  have dc64 : decide (64 < (l.length : Int)) = false := by simp; omega
  repeat (first | (with_reducible refine AW.seq ?_) | (with_reducible refine AW.block ?_) | (with_reducible refine AW.skip ?_) | (with_reducible refine AW.ret ?_) | (with_reducible refine AW.exit ?_) | (with_reducible refine AW.reg hT ?_) | ((with_reducible refine AW.cond_true ?_ ?_); · rfl) | ((with_reducible refine AW.cond_false ?_ ?_); · rfl) | simp (maxSteps := 3000000) (maxDischargeDepth := 12) only [push_cast,appendX,reduceIte,reduceCtorEq,Nat.reduceSub,Nat.reduceAdd,Nat.reduceMul,Nat.reduceLT,Nat.reduceLeDiff,Nat.reduceEqDiff,Nat.reduceBEq,Int.reduceToNat,Int.reduceLT,Int.reduceLE,Int.reduceEq,Int.reduceNeg,Try.results24,dcml,dc64])
  refine AW.loop (teI l σ) (m := l.length + 1) ⟨0, .sc (.slice none 0 0), rfl, Nat.zero_le _, by simp, Hold.nil _ _, by simp [tOf], Ext.refl _ _, by (simp only [push_cast, TellsL, tells_any, tells_refl])⟩ ?_
  rintro m ts σ3 ⟨i, d, rfl, hil, hmay, hh, hnew, xt3, hts⟩
  refine AW.told hts ?_
  clear hts
  by_cases hi : i < l.length
  · have dci : decide ((i : Int) < (l.length : Int)) = true := by simp; omega
    have dci2 : ((i : Int) < (l.length : Int)) = True := by simp; omega
    have dci0 : ((0 : Int) ≤ (i : Int)) = True := by simp
    obtain ⟨x, hx⟩ : ∃ x, x = l[i] := ⟨_, rfl⟩
    have hxw : wA x := hw x (by rw [hx]; exact List.getElem_mem _)
    have dcel : (l.map eA)[i]? = some (eA x) := by rw [List.getElem?_map, List.getElem?_eq_getElem hi, hx]; rfl
    rw [eA_eq] at dcel
    have dcwi : IntKind.i64.wrap ((i : Int) + 1) = (i : Int) + 1 := wrap_i64 (by omega) (by omega)
    repeat (first | (with_reducible refine AW.seq ?_) | (with_reducible refine AW.block ?_) | (with_reducible refine AW.skip ?_) | (with_reducible refine AW.ret ?_) | (with_reducible refine AW.exit ?_) | (with_reducible refine AW.reg hT ?_) | ((with_reducible refine AW.cond_true ?_ ?_); · rfl) | ((with_reducible refine AW.cond_false ?_ ?_); · rfl) | simp (maxSteps := 3000000) (maxDischargeDepth := 12) only [push_cast,appendX,reduceIte,reduceCtorEq,Nat.reduceSub,Nat.reduceAdd,Nat.reduceMul,Nat.reduceLT,Nat.reduceLeDiff,Nat.reduceEqDiff,Nat.reduceBEq,Int.reduceToNat,Int.reduceLT,Int.reduceLE,Int.reduceEq,Int.reduceNeg,Try.results24,dcml,dc64,xt3.2,xt3.ltT,xt3.leT,dci,dci2,dci0,dcel,dcwi])
    refine AOpsL.call (first := []) (cap := []) hT rfl rfl rfl fn20 rfl (ACalls.mono (pmay_ok _ x hxw) ?_)
    rintro y σ4 ⟨rfl, xt4⟩
    have xt6 : Ext [] σ3 σ4 := by repeat (first | exact Ext.refl _ _ | assumption | refine Ext.push ?_ _ | ((refine Ext.set ?_ ?_ _); rotate_left; · (simp (maxSteps := 3000000) (maxDischargeDepth := 12) only [push_cast, appendX, Nat.reduceAdd, Nat.reduceEqDiff, Nat.reduceLT, Nat.reduceLeDiff, reduceIte, reduceCtorEq, dcml, dc64, xt3.2, xt3.ltT, xt3.leT, dci, dci2, dci0, dcel, dcwi, xt4.2, xt4.ltT, xt4.leT])) | ((refine Ext.then1 (by assumption) ?_ ?_); rotate_left; · (intro p hp _; first | assumption | exact List.mem_cons_of_mem _ hp | (cases hp; done) | (simp at hp; subst hp; simp))))
    have xt5 : Ext [] σ σ4 := xt3.trans xt6
    have gt4 : σ4.get σ3.n = some ⟨[eA x], 40, true⟩ := by simp (maxSteps := 3000000) (maxDischargeDepth := 12) only [push_cast, appendX, Nat.reduceAdd, Nat.reduceEqDiff, Nat.reduceLT, Nat.reduceLeDiff, reduceIte, reduceCtorEq, eA_eq, dcml, dc64, xt3.2, xt3.ltT, xt3.leT, dci, dci2, dci0, dcel, dcwi, xt4.2, xt4.ltT, xt4.leT, xt6.2, xt6.ltT, xt6.leT, xt5.2, xt5.ltT, xt5.leT]
    rw [eA_eq] at gt4
    have hh4 := hh.frame xt6 (by simp)
    clear xt4 hh
    by_cases hm : mayA x
    · have dcm : decide (mayA x) = true := by simpa using hm
      rw [dcm]
      repeat (first | (with_reducible refine AW.seq ?_) | (with_reducible refine AW.block ?_) | (with_reducible refine AW.skip ?_) | (with_reducible refine AW.ret ?_) | (with_reducible refine AW.exit ?_) | (with_reducible refine AW.reg hT ?_) | ((with_reducible refine AW.cond_true ?_ ?_); · rfl) | ((with_reducible refine AW.cond_false ?_ ?_); · rfl) | simp (maxSteps := 3000000) (maxDischargeDepth := 12) only [push_cast,appendX,reduceIte,reduceCtorEq,Nat.reduceSub,Nat.reduceAdd,Nat.reduceMul,Nat.reduceLT,Nat.reduceLeDiff,Nat.reduceEqDiff,Nat.reduceBEq,Int.reduceToNat,Int.reduceLT,Int.reduceLE,Int.reduceEq,Int.reduceNeg,Try.results24,dcml,dc64,xt3.2,xt3.ltT,xt3.leT,dci,dci2,dci0,dcel,dcwi,xt6.2,xt6.ltT,xt6.leT,xt5.2,xt5.ltT,xt5.leT,gt4,Heap.lt gt4,dcm])
      refine AOpsL.call (first := []) (cap := []) hT rfl rfl rfl fn36 rfl (ACalls.mono (numbers_ok _ x hxw hm) ?_)
      rintro y σ5 ⟨rfl, xt7⟩
      have dcnl : ((nums x 8).map eN).length = 16 := by rw [List.length_map]; rfl
      have dcnc : (((16 : Nat) : Int)) = 16 := by simp
      repeat (first | (with_reducible refine AW.seq ?_) | (with_reducible refine AW.block ?_) | (with_reducible refine AW.skip ?_) | (with_reducible refine AW.ret ?_) | (with_reducible refine AW.exit ?_) | (with_reducible refine AW.reg hT ?_) | ((with_reducible refine AW.cond_true ?_ ?_); · rfl) | ((with_reducible refine AW.cond_false ?_ ?_); · rfl) | simp (maxSteps := 3000000) (maxDischargeDepth := 12) only [push_cast,appendX,reduceIte,reduceCtorEq,Nat.reduceSub,Nat.reduceAdd,Nat.reduceMul,Nat.reduceLT,Nat.reduceLeDiff,Nat.reduceEqDiff,Nat.reduceBEq,Int.reduceToNat,Int.reduceLT,Int.reduceLE,Int.reduceEq,Int.reduceNeg,Try.results24,dcml,dc64,xt3.2,xt3.ltT,xt3.leT,dci,dci2,dci0,dcel,dcwi,xt6.2,xt6.ltT,xt6.leT,xt5.2,xt5.ltT,xt5.leT,gt4,Heap.lt gt4,dcm,xt7.2,xt7.ltT,xt7.leT,dcnl,dcnc])
      refine AW.loop (teJ l i x (bytsA (l.take i)) σ) (m := 17) ⟨0, d, rfl, by omega, by simpa [digsB] using hh4.frame xt7 (by simp), hnew, by repeat (first | exact Ext.refl _ _ | assumption | refine Ext.push ?_ _ | ((refine Ext.set ?_ ?_ _); rotate_left; · (simp (maxSteps := 3000000) (maxDischargeDepth := 12) only [push_cast, appendX, Nat.reduceAdd, Nat.reduceEqDiff, Nat.reduceLT, Nat.reduceLeDiff, reduceIte, reduceCtorEq, dcml, dc64, xt3.2, xt3.ltT, xt3.leT, dci, dci2, dci0, dcel, dcwi, xt6.2, xt6.ltT, xt6.leT, xt5.2, xt5.ltT, xt5.leT, gt4, Heap.lt gt4, dcm, xt7.2, xt7.ltT, xt7.leT, dcnl, dcnc])) | ((refine Ext.then1 (by assumption) ?_ ?_); rotate_left; · (intro p hp _; first | assumption | exact List.mem_cons_of_mem _ hp | (cases hp; done) | (simp at hp; subst hp; simp)))), by (simp only [push_cast, TellsL, tells_any, tells_refl])⟩ ?_
      clear gt4 hh4 hnew xt5 xt6 xt7
      rintro m ts σ6 ⟨j, d, rfl, hj, hh, hnew, xt8, hts⟩
      refine AW.told hts ?_
      clear hts
      by_cases hj2 : j < 16
      · have dcj : decide ((j : Int) < 16) = true := by simp; omega
        have dcj2 : ((j : Int) < 16) = True := by simp; omega
        have dcj0 : ((0 : Int) ≤ (j : Int)) = True := by simp
        have dcwj : IntKind.i64.wrap ((j : Int) + 1) = (j : Int) + 1 := wrap_i64 (by omega) (by omega)
        have hjl : j < (nums x 8).length := hj2
        obtain ⟨q, hq⟩ : ∃ q, q = (nums x 8)[j] := ⟨_, rfl⟩
        have hqw := nums_wf x hxw hm q (by rw [hq]; exact List.getElem_mem _)
        have dcq : ((nums x 8).map eN)[j]? = some [.sc (.int .i64 (q.1 : Int)), .sc (.int .u64 q.2)] := by rw [List.getElem?_map, List.getElem?_eq_getElem hjl, hq]; rfl
        have hl1 := digsB_len ((nums x 8).take j) (fun p hp => nums_le x p (List.mem_of_mem_take hp))
        have hl2 := bytsA_len (l.take i)
        simp only [List.length_take] at hl1 hl2
        repeat (first | (with_reducible refine AW.seq ?_) | (with_reducible refine AW.block ?_) | (with_reducible refine AW.skip ?_) | (with_reducible refine AW.ret ?_) | (with_reducible refine AW.exit ?_) | (with_reducible refine AW.reg hT ?_) | ((with_reducible refine AW.cond_true ?_ ?_); · rfl) | ((with_reducible refine AW.cond_false ?_ ?_); · rfl) | simp (maxSteps := 3000000) (maxDischargeDepth := 12) only [push_cast,appendX,reduceIte,reduceCtorEq,Nat.reduceSub,Nat.reduceAdd,Nat.reduceMul,Nat.reduceLT,Nat.reduceLeDiff,Nat.reduceEqDiff,Nat.reduceBEq,Int.reduceToNat,Int.reduceLT,Int.reduceLE,Int.reduceEq,Int.reduceNeg,Try.results24,dcml,dc64,xt3.2,xt3.ltT,xt3.leT,dci,dci2,dci0,dcel,dcwi,dcm,dcnl,dcnc,xt8.2,xt8.ltT,xt8.leT,dcj,dcj2,dcj0,dcwj,dcq])
        refine AOpsL.call (first := []) (cap := []) hT rfl rfl rfl fn37 rfl (ACalls.mono (put_ok _ d _ q.1 q.2 ((hh.frame (X := []) (by repeat (first | exact Ext.refl _ _ | assumption | refine Ext.push ?_ _ | ((refine Ext.set ?_ ?_ _); rotate_left; · (simp (maxSteps := 3000000) (maxDischargeDepth := 12) only [push_cast, appendX, Nat.reduceAdd, Nat.reduceEqDiff, Nat.reduceLT, Nat.reduceLeDiff, reduceIte, reduceCtorEq, dcml, dc64, xt3.2, xt3.ltT, xt3.leT, dci, dci2, dci0, dcel, dcwi, dcm, dcnl, dcnc, xt8.2, xt8.ltT, xt8.leT, dcj, dcj2, dcj0, dcwj, dcq])) | ((refine Ext.then1 (by assumption) ?_ ?_); rotate_left; · (intro p hp _; first | assumption | exact List.mem_cons_of_mem _ hp | (cases hp; done) | (simp at hp; subst hp; simp))))) (by simp)).src) (hold_len hh) (by rw [List.length_append]; omega) hqw.1 hqw.2.1 hqw.2.2.1 hqw.2.2.2) ?_)
        rintro y σ7 ⟨d7, rfl, hh7, hnew7, xt9⟩
        have hle : σ.n ≤ σ6.n := xt8.1
        have dncl := hh7.cells
        have dnlf := hh7.leaf
        repeat (first | (with_reducible refine AW.seq ?_) | (with_reducible refine AW.block ?_) | (with_reducible refine AW.skip ?_) | (with_reducible refine AW.ret ?_) | (with_reducible refine AW.exit ?_) | (with_reducible refine AW.reg hT ?_) | ((with_reducible refine AW.cond_true ?_ ?_); · rfl) | ((with_reducible refine AW.cond_false ?_ ?_); · rfl) | simp (maxSteps := 3000000) (maxDischargeDepth := 12) only [push_cast,appendX,reduceIte,reduceCtorEq,Nat.reduceSub,Nat.reduceAdd,Nat.reduceMul,Nat.reduceLT,Nat.reduceLeDiff,Nat.reduceEqDiff,Nat.reduceBEq,Int.reduceToNat,Int.reduceLT,Int.reduceLE,Int.reduceEq,Int.reduceNeg,Try.results24,dcml,dc64,xt3.2,xt3.ltT,xt3.leT,dci,dci2,dci0,dcel,dcwi,dcm,dcnl,dcnc,xt8.2,xt8.ltT,xt8.leT,dcj,dcj2,dcj0,dcwj,dcq,xt9.2,xt9.ltT,xt9.leT,↓dncl,↓dnlf])
        refine ⟨17 - (j + 1), by omega, j + 1, d7, rfl, hj2, ?_, fun z hz => Nat.le_trans hle (by have := hnew7 z hz; simp at this; omega), by repeat (first | exact Ext.refl _ _ | assumption | refine Ext.push ?_ _ | ((refine Ext.set ?_ ?_ _); rotate_left; · (simp (maxSteps := 3000000) (maxDischargeDepth := 12) only [push_cast, appendX, Nat.reduceAdd, Nat.reduceEqDiff, Nat.reduceLT, Nat.reduceLeDiff, reduceIte, reduceCtorEq, dcml, dc64, xt3.2, xt3.ltT, xt3.leT, dci, dci2, dci0, dcel, dcwi, dcm, dcnl, dcnc, xt8.2, xt8.ltT, xt8.leT, dcj, dcj2, dcj0, dcwj, dcq, xt9.2, xt9.ltT, xt9.leT, ↓dncl, ↓dnlf])) | ((refine Ext.then1 (by assumption) ?_ ?_); rotate_left; · (intro p hp _; first | assumption | exact List.mem_cons_of_mem _ hp | (cases hp; done) | (simp at hp; subst hp; simp)))), by (simp only [push_cast, TellsL, tells_any, tells_refl])⟩
        rw [digsB_take hjl, ← hq, ← List.append_assoc]; exact hh7
      · have dcj : decide ((j : Int) < 16) = false := by simp; omega
        have hj16 : j = 16 := by omega
        subst hj16
        have h16 : (nums x 8).take 16 = nums x 8 := rfl
        rw [h16] at hh
        repeat (first | (with_reducible refine AW.seq ?_) | (with_reducible refine AW.block ?_) | (with_reducible refine AW.skip ?_) | (with_reducible refine AW.ret ?_) | (with_reducible refine AW.exit ?_) | (with_reducible refine AW.reg hT ?_) | ((with_reducible refine AW.cond_true ?_ ?_); · rfl) | ((with_reducible refine AW.cond_false ?_ ?_); · rfl) | simp (maxSteps := 3000000) (maxDischargeDepth := 12) only [push_cast,appendX,reduceIte,reduceCtorEq,Nat.reduceSub,Nat.reduceAdd,Nat.reduceMul,Nat.reduceLT,Nat.reduceLeDiff,Nat.reduceEqDiff,Nat.reduceBEq,Int.reduceToNat,Int.reduceLT,Int.reduceLE,Int.reduceEq,Int.reduceNeg,Try.results24,dcml,dc64,xt3.2,xt3.ltT,xt3.leT,dci,dci2,dci0,dcel,dcwi,dcm,dcnl,dcnc,xt8.2,xt8.ltT,xt8.leT,dcj])
        refine ⟨l.length + 1 - (i + 1), by omega, i + 1, d, rfl, hi, ?_, ?_, hnew, xt8, by (simp only [push_cast, TellsL, tells_any, tells_refl])⟩
        · rw [List.take_add_one, List.getElem?_eq_getElem hi, Option.toList_some, ← hx]
          intro y hy
          rcases List.mem_append.1 hy with hy | hy
          · exact hmay y hy
          · rw [List.mem_singleton.1 hy]; exact hm
        · rw [bytsA_take hi, ← hx]; exact hh
    · have dcm : decide (mayA x) = false := by simpa using hm
      rw [dcm]
      have e1 : encT l = ([], 2) := by
        have : ¬ ∀ x ∈ l, mayA x := fun h => hm (h x (by rw [hx]; exact List.getElem_mem _))
        simp only [encT, if_neg h64, if_neg this]
      repeat (first | (with_reducible refine AW.seq ?_) | (with_reducible refine AW.block ?_) | (with_reducible refine AW.skip ?_) | (with_reducible refine AW.ret ?_) | (with_reducible refine AW.exit ?_) | (with_reducible refine AW.reg hT ?_) | ((with_reducible refine AW.cond_true ?_ ?_); · rfl) | ((with_reducible refine AW.cond_false ?_ ?_); · rfl) | simp (maxSteps := 3000000) (maxDischargeDepth := 12) only [push_cast,appendX,reduceIte,reduceCtorEq,Nat.reduceSub,Nat.reduceAdd,Nat.reduceMul,Nat.reduceLT,Nat.reduceLeDiff,Nat.reduceEqDiff,Nat.reduceBEq,Int.reduceToNat,Int.reduceLT,Int.reduceLE,Int.reduceEq,Int.reduceNeg,Try.results24,dcml,dc64,xt3.2,xt3.ltT,xt3.leT,dci,dci2,dci0,dcel,dcwi,dcm])
      refine ⟨_, by rw [e1], by rw [e1]; exact Hold.nil _ _, by simp [tOf], xt5⟩
  · have dci : decide ((i : Int) < (l.length : Int)) = false := by simp; omega
    have he : i = l.length := by omega
    subst he
    rw [List.take_length] at hh hmay
    have dncl := hh.cells
    have dnlf := hh.leaf
    have e1 : encT l = (bytsA l, 0) := by simp only [encT, if_neg h64, if_pos hmay]
    repeat (first | (with_reducible refine AW.seq ?_) | (with_reducible refine AW.block ?_) | (with_reducible refine AW.skip ?_) | (with_reducible refine AW.ret ?_) | (with_reducible refine AW.exit ?_) | (with_reducible refine AW.reg hT ?_) | ((with_reducible refine AW.cond_true ?_ ?_); · rfl) | ((with_reducible refine AW.cond_false ?_ ?_); · rfl) | simp (maxSteps := 3000000) (maxDischargeDepth := 12) only [push_cast,appendX,reduceIte,reduceCtorEq,Nat.reduceSub,Nat.reduceAdd,Nat.reduceMul,Nat.reduceLT,Nat.reduceLeDiff,Nat.reduceEqDiff,Nat.reduceBEq,Int.reduceToNat,Int.reduceLT,Int.reduceLE,Int.reduceEq,Int.reduceNeg,Try.results24,dcml,dc64,xt3.2,xt3.ltT,xt3.leT,dci,↓dncl,↓dnlf])
    exact ⟨d, by rw [e1], by rw [e1]; exact hh, hnew, xt3⟩
end Go.Proofs.Ytkcccomdamdocaa.Cm
