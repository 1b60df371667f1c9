/- graph.Near; GraphNear. -/
import Derived.Test.YtpigelcckiejiaaGP0
import Derived.Test.YtpigelcckiejiaaGF4
namespace Go.Proofs.Ytpigelcckiejiaa.Cm
open Go.RowKit
set_option linter.unusedVariables false
set_option linter.unusedSimpArgs false
set_option maxRecDepth 20000
set_option maxHeartbeats 8000000
/-- The other ends of a node's links, as they come. -/
def nrI (l : List Lk) (v : Int) : Nat → List Int
  | 0 => []
  | i + 1 => nrI l v i ++ match l[i]? with | some x => if v = x.f0 then [x.f1] else if v = x.f1 then [x.f0] else [] | none => []
theorem nrI_len (l : List Lk) (v : Int) : ∀ i, (nrI l v i).length ≤ i
  | 0 => by simp [nrI]
  | i + 1 => by
    have := nrI_len l v i
    rw [nrI, List.length_append]
    split
    · split
      · simp; omega
      · split <;> simp <;> omega
    · simp; omega
theorem mem_nrI (l : List Lk) (v w : Int) : ∀ i, w ∈ nrI l v i ↔ ∃ j x, j < i ∧ l[j]? = some x ∧ ((x.f0 = v ∧ x.f1 = w) ∨ (x.f1 = v ∧ x.f0 = w))
  | 0 => by simp [nrI]
  | i + 1 => by
    rw [nrI, List.mem_append, mem_nrI l v w i]
    constructor
    · rintro (⟨j, x, h1, h2⟩ | h)
      · exact ⟨j, x, by omega, h2⟩
      · split at h
        · rename_i x hx
          split at h
          · rename_i h1
            rw [List.mem_singleton] at h
            exact ⟨i, x, by omega, hx, .inl ⟨h1.symm, h.symm⟩⟩
          · split at h
            · rename_i h1
              rw [List.mem_singleton] at h
              exact ⟨i, x, by omega, hx, .inr ⟨h1.symm, h.symm⟩⟩
            · cases h
        · cases h
    · rintro ⟨j, x, h1, h2, h3⟩
      by_cases hj : j < i
      · exact .inl ⟨j, x, hj, h2, h3⟩
      · have : j = i := by omega
        subst this
        rw [h2]
        refine .inr ?_
        simp only
        rcases h3 with ⟨ha, hb⟩ | ⟨ha, hb⟩
        · rw [if_pos ha.symm]; simp [hb]
        · split
          · rename_i h; rw [← hb, ← h, ha]; simp
          · rw [if_pos ha.symm]; simp [hb]
def nearA (l : List Lk) (v : Int) : List Int := let S := srt (nrI l v l.length); dq S S.length
theorem mem_nearA (l : List Lk) (v w : Int) : w ∈ nearA l v ↔ ∃ j x, j < l.length ∧ l[j]? = some x ∧ ((x.f0 = v ∧ x.f1 = w) ∨ (x.f1 = v ∧ x.f0 = w)) := by
  unfold nearA
  rw [mem_dq_all, (srt_perm _).mem_iff, mem_nrI]
theorem nearA_len (l : List Lk) (v : Int) : (nearA l v).length ≤ l.length := by
  unfold nearA
  have h1 := dq_len (srt (nrI l v l.length)) (srt (nrI l v l.length)).length
  have h2 := (srt_perm (nrI l v l.length)).length_eq
  have h3 := nrI_len l v l.length
  simp only
  omega
theorem near_both (l : List Lk) (v w : Int) : decide (w ∈ nearA l v) = decide (v ∈ nearA l w) := by
  refine decide_eq_decide.2 ?_
  rw [mem_nearA, mem_nearA]
  constructor <;> (rintro ⟨j, x, h1, h2, h3⟩; exact ⟨j, x, h1, h2, h3.elim (fun h => .inr ⟨h.2, h.1⟩) (fun h => .inl ⟨h.2, h.1⟩)⟩)
def nrJ (l : List Lk) (v : Int) (σ0 : Heap) (m : Nat) (ts : List DV) (σ : Heap) : Prop := ∃ i d, m = l.length + 1 - i ∧ i ≤ l.length ∧ Hold σ d 3 ((nrI l v i).map eZ') ∧ (∀ p ∈ tOf d, σ0.n ≤ p) ∧ Ext [] σ0 σ ∧ TellsL ts (.any :: .sc (.int .i64 v) :: .any :: .any :: .any :: d :: .any :: .any :: .imm (l.map eK) :: .sc (.int .i64 l.length) :: .sc (.int .i64 i) :: .any :: .any :: .any :: .any :: .any :: .any :: .any :: .any :: .any :: .any :: .any :: .any :: .any :: .any :: .any :: .any :: .any :: .any :: .any :: .any :: .any :: .any :: .any :: .any :: .any :: .any :: .any :: [])
theorem pnear_ok (σ : Heap) (l : List Lk) (v : Int) (hl : l.length ≤ 1000000) : ACalls Try.prog 22 [.imm (l.map eK), .sc (.int .i64 v)] σ (fun x σ' => x = .imm ((nearA l v).map eZ) ∧ Ext [] σ σ') := by
  have dcml : (l.map eK).length = l.length := by simp
  refine ACalls.toImmH (e := 3) ?_
  show ACalls Try.prog 22 [.imm (l.map eK), .sc (.int .i64 v)] σ (fun x σ' => Hold σ' x 3 ((nearA l v).map eZ') ∧ (∀ q ∈ tOf x, σ.n ≤ q) ∧ Ext [] σ σ')
  refine ACalls.code hT Try.func22 rfl ?_
  simp only [Try.ntmps22, List.length_cons, List.length_nil, Nat.reduceSub, Nat.reduceAdd, List.replicate, List.cons_append, List.nil_append]
  repeat (first | (with_reducible refine AW.seq ?_) | (with_reducible refine AW.block ?_) | (with_reducible refine AW.skip ?_) | (with_reducible refine AW.ret ?_) | (with_reducible refine AW.exit ?_) | (with_reducible refine AW.reg hT ?_) | ((with_reducible refine AW.cond_true ?_ ?_); · rfl) | ((with_reducible refine AW.cond_false ?_ ?_); · rfl) | simp (maxSteps := 3000000) (maxDischargeDepth := 12) only [push_cast,appendX,reduceIte,reduceCtorEq,Nat.reduceSub,Nat.reduceAdd,Nat.reduceMul,Nat.reduceLT,Nat.reduceLeDiff,Nat.reduceEqDiff,Nat.reduceBEq,Int.reduceToNat,Int.reduceLT,Int.reduceLE,Int.reduceEq,Int.reduceNeg,Try.results22,dcml])
  refine AW.loop (nrJ l v σ) (m := l.length + 1) ⟨0, .sc (.slice none 0 0), rfl, Nat.zero_le _, Hold.nil _ _, by simp [tOf], Ext.refl _ _, by (simp only [push_cast, TellsL, tells_any, tells_refl])⟩ ?_
  rintro m ts σ3 ⟨i, d, rfl, hil, hh, hnew, xt3, hts⟩
  refine AW.told hts ?_
  clear hts
  by_cases hi : i < l.length
  · have dci : decide ((i : Int) < (l.length : Int)) = true := decide_eq_true (by omega)
    have dci2 : ((i : Int) < (l.length : Int)) = True := by simp; omega
    have dci0 : ((0 : Int) ≤ (i : Int)) = True := by simp
    obtain ⟨x, hx⟩ : ∃ x, l[i]? = some x := ⟨_, List.getElem?_eq_getElem hi⟩
    have dcel : (l.map eK)[i]? = some (eK x) := by rw [List.getElem?_map, hx]; rfl
    rw [eK_eq] at dcel
    have dcw : IntKind.i64.wrap ((i : Int) + 1) = (i : Int) + 1 := wrap_i64 (by omega) (by omega)
    have hol := nrI_len l v i
    by_cases hv : v = x.f0
    · have dcv : (v == x.f0) = true := by simpa using hv
      have hou : (nrI l v (i + 1)).map eZ' = (nrI l v i).map eZ' ++ [[.sc (.int .i64 x.f1)]] := by
        rw [nrI, hx]; simp [hv, eZ']
      obtain ⟨d5, σ5, dnapp, hh5, hnew5, xt5, xt6⟩ := Hold.app1x (ty := 23) (x := [.sc (.int .i64 x.f1)]) (σ0 := σ) (σ := (σ3.push ⟨[[.sc (.int .i64 0), .sc (.int .i64 0), .sc (.int .u64 0), .sc (.int .i64 0), .sc (.int .u32 0)]], 43, true⟩).set σ3.n ⟨[eK x], 43, true⟩) (hh.frame (X := []) (by repeat (first | exact Ext.refl _ _ | assumption | refine Ext.push ?_ _ | ((refine Ext.set ?_ ?_ _); rotate_left; · (simp (maxSteps := 3000000) (maxDischargeDepth := 12) only [push_cast, appendX, Nat.reduceAdd, Nat.reduceEqDiff, Nat.reduceLT, Nat.reduceLeDiff, reduceIte, reduceCtorEq, dcml, xt3.2, xt3.ltT, xt3.leT, dci, dci2, dci0, dcel, dcw, dcv])) | ((refine Ext.then1 (by assumption) ?_ ?_); rotate_left; · (intro p hp _; first | assumption | exact List.mem_cons_of_mem _ hp | (cases hp; done) | (simp at hp; subst hp; simp))))) (by simp)) hnew (by repeat (first | exact Ext.refl _ _ | assumption | refine Ext.push ?_ _ | ((refine Ext.set ?_ ?_ _); rotate_left; · (simp (maxSteps := 3000000) (maxDischargeDepth := 12) only [push_cast, appendX, Nat.reduceAdd, Nat.reduceEqDiff, Nat.reduceLT, Nat.reduceLeDiff, reduceIte, reduceCtorEq, dcml, xt3.2, xt3.ltT, xt3.leT, dci, dci2, dci0, dcel, dcw, dcv])) | ((refine Ext.then1 (by assumption) ?_ ?_); rotate_left; · (intro p hp _; first | assumption | exact List.mem_cons_of_mem _ hp | (cases hp; done) | (simp at hp; subst hp; simp))))) rfl rfl (by decide) rfl (by simp; omega)
      simp only [eK_eq, Heap.n_set, Heap.n_push] at dnapp
      clear xt6
      repeat (first | (with_reducible refine AW.seq ?_) | (with_reducible refine AW.block ?_) | (with_reducible refine AW.skip ?_) | (with_reducible refine AW.ret ?_) | (with_reducible refine AW.exit ?_) | (with_reducible refine AW.reg hT ?_) | ((with_reducible refine AW.cond_true ?_ ?_); · rfl) | ((with_reducible refine AW.cond_false ?_ ?_); · rfl) | simp (maxSteps := 3000000) (maxDischargeDepth := 12) only [push_cast,appendX,reduceIte,reduceCtorEq,Nat.reduceSub,Nat.reduceAdd,Nat.reduceMul,Nat.reduceLT,Nat.reduceLeDiff,Nat.reduceEqDiff,Nat.reduceBEq,Int.reduceToNat,Int.reduceLT,Int.reduceLE,Int.reduceEq,Int.reduceNeg,Try.results22,dcml,xt3.2,xt3.ltT,xt3.leT,dci,dci2,dci0,dcel,dcw,dcv,↓dnapp,xt5.2,xt5.ltT,xt5.leT])
      exact ⟨l.length + 1 - (i + 1), by omega, i + 1, d5, rfl, hi, by rw [hou]; exact hh5, hnew5, xt5, by (simp only [push_cast, TellsL, tells_any, tells_refl])⟩
    · have dcv : (v == x.f0) = false := by simpa using hv
      by_cases hv2 : v = x.f1
      · have dcv2 : (v == x.f1) = true := by simpa using hv2
        have hou : (nrI l v (i + 1)).map eZ' = (nrI l v i).map eZ' ++ [[.sc (.int .i64 x.f0)]] := by
          rw [nrI, hx]; simp only [if_neg hv, if_pos hv2]; simp [eZ']
        obtain ⟨d5, σ5, dnapp, hh5, hnew5, xt5, xt6⟩ := Hold.app1x (ty := 23) (x := [.sc (.int .i64 x.f0)]) (σ0 := σ) (σ := (σ3.push ⟨[[.sc (.int .i64 0), .sc (.int .i64 0), .sc (.int .u64 0), .sc (.int .i64 0), .sc (.int .u32 0)]], 43, true⟩).set σ3.n ⟨[eK x], 43, true⟩) (hh.frame (X := []) (by repeat (first | exact Ext.refl _ _ | assumption | refine Ext.push ?_ _ | ((refine Ext.set ?_ ?_ _); rotate_left; · (simp (maxSteps := 3000000) (maxDischargeDepth := 12) only [push_cast, appendX, Nat.reduceAdd, Nat.reduceEqDiff, Nat.reduceLT, Nat.reduceLeDiff, reduceIte, reduceCtorEq, dcml, xt3.2, xt3.ltT, xt3.leT, dci, dci2, dci0, dcel, dcw, dcv, dcv2])) | ((refine Ext.then1 (by assumption) ?_ ?_); rotate_left; · (intro p hp _; first | assumption | exact List.mem_cons_of_mem _ hp | (cases hp; done) | (simp at hp; subst hp; simp))))) (by simp)) hnew (by repeat (first | exact Ext.refl _ _ | assumption | refine Ext.push ?_ _ | ((refine Ext.set ?_ ?_ _); rotate_left; · (simp (maxSteps := 3000000) (maxDischargeDepth := 12) only [push_cast, appendX, Nat.reduceAdd, Nat.reduceEqDiff, Nat.reduceLT, Nat.reduceLeDiff, reduceIte, reduceCtorEq, dcml, xt3.2, xt3.ltT, xt3.leT, dci, dci2, dci0, dcel, dcw, dcv, dcv2])) | ((refine Ext.then1 (by assumption) ?_ ?_); rotate_left; · (intro p hp _; first | assumption | exact List.mem_cons_of_mem _ hp | (cases hp; done) | (simp at hp; subst hp; simp))))) rfl rfl (by decide) rfl (by simp; omega)
        simp only [eK_eq, Heap.n_set, Heap.n_push] at dnapp
        clear xt6
        repeat (first | (with_reducible refine AW.seq ?_) | (with_reducible refine AW.block ?_) | (with_reducible refine AW.skip ?_) | (with_reducible refine AW.ret ?_) | (with_reducible refine AW.exit ?_) | (with_reducible refine AW.reg hT ?_) | ((with_reducible refine AW.cond_true ?_ ?_); · rfl) | ((with_reducible refine AW.cond_false ?_ ?_); · rfl) | simp (maxSteps := 3000000) (maxDischargeDepth := 12) only [push_cast,appendX,reduceIte,reduceCtorEq,Nat.reduceSub,Nat.reduceAdd,Nat.reduceMul,Nat.reduceLT,Nat.reduceLeDiff,Nat.reduceEqDiff,Nat.reduceBEq,Int.reduceToNat,Int.reduceLT,Int.reduceLE,Int.reduceEq,Int.reduceNeg,Try.results22,dcml,xt3.2,xt3.ltT,xt3.leT,dci,dci2,dci0,dcel,dcw,dcv,dcv2,↓dnapp,xt5.2,xt5.ltT,xt5.leT])
        exact ⟨l.length + 1 - (i + 1), by omega, i + 1, d5, rfl, hi, by rw [hou]; exact hh5, hnew5, xt5, by (simp only [push_cast, TellsL, tells_any, tells_refl])⟩
      · have dcv2 : (v == x.f1) = false := by simpa using hv2
        have hou : nrI l v (i + 1) = nrI l v i := by rw [nrI, hx]; simp only [if_neg hv, if_neg hv2, List.append_nil]
        repeat (first | (with_reducible refine AW.seq ?_) | (with_reducible refine AW.block ?_) | (with_reducible refine AW.skip ?_) | (with_reducible refine AW.ret ?_) | (with_reducible refine AW.exit ?_) | (with_reducible refine AW.reg hT ?_) | ((with_reducible refine AW.cond_true ?_ ?_); · rfl) | ((with_reducible refine AW.cond_false ?_ ?_); · rfl) | simp (maxSteps := 3000000) (maxDischargeDepth := 12) only [push_cast,appendX,reduceIte,reduceCtorEq,Nat.reduceSub,Nat.reduceAdd,Nat.reduceMul,Nat.reduceLT,Nat.reduceLeDiff,Nat.reduceEqDiff,Nat.reduceBEq,Int.reduceToNat,Int.reduceLT,Int.reduceLE,Int.reduceEq,Int.reduceNeg,Try.results22,dcml,xt3.2,xt3.ltT,xt3.leT,dci,dci2,dci0,dcel,dcw,dcv,dcv2])
        exact ⟨l.length + 1 - (i + 1), by omega, i + 1, d, rfl, hi, by rw [hou]; exact hh.frame (X := []) (by repeat (first | exact Ext.refl _ _ | assumption | refine Ext.push ?_ _ | ((refine Ext.set ?_ ?_ _); rotate_left; · (simp (maxSteps := 3000000) (maxDischargeDepth := 12) only [push_cast, appendX, Nat.reduceAdd, Nat.reduceEqDiff, Nat.reduceLT, Nat.reduceLeDiff, reduceIte, reduceCtorEq, dcml, xt3.2, xt3.ltT, xt3.leT, dci, dci2, dci0, dcel, dcw, dcv, dcv2])) | ((refine Ext.then1 (by assumption) ?_ ?_); rotate_left; · (intro p hp _; first | assumption | exact List.mem_cons_of_mem _ hp | (cases hp; done) | (simp at hp; subst hp; simp))))) (by simp), hnew, by repeat (first | exact Ext.refl _ _ | assumption | refine Ext.push ?_ _ | ((refine Ext.set ?_ ?_ _); rotate_left; · (simp (maxSteps := 3000000) (maxDischargeDepth := 12) only [push_cast, appendX, Nat.reduceAdd, Nat.reduceEqDiff, Nat.reduceLT, Nat.reduceLeDiff, reduceIte, reduceCtorEq, dcml, xt3.2, xt3.ltT, xt3.leT, dci, dci2, dci0, dcel, dcw, dcv, dcv2])) | ((refine Ext.then1 (by assumption) ?_ ?_); rotate_left; · (intro p hp _; first | assumption | exact List.mem_cons_of_mem _ hp | (cases hp; done) | (simp at hp; subst hp; simp)))), by (simp only [push_cast, TellsL, tells_any, tells_refl])⟩
  · have dci : decide ((i : Int) < (l.length : Int)) = false := decide_eq_false (by omega)
    have he : i = l.length := by omega
    subst he
    have hol := nrI_len l v l.length
    repeat (first | (with_reducible refine AW.seq ?_) | (with_reducible refine AW.block ?_) | (with_reducible refine AW.skip ?_) | (with_reducible refine AW.ret ?_) | (with_reducible refine AW.exit ?_) | (with_reducible refine AW.reg hT ?_) | ((with_reducible refine AW.cond_true ?_ ?_); · rfl) | ((with_reducible refine AW.cond_false ?_ ?_); · rfl) | simp (maxSteps := 3000000) (maxDischargeDepth := 12) only [push_cast,appendX,reduceIte,reduceCtorEq,Nat.reduceSub,Nat.reduceAdd,Nat.reduceMul,Nat.reduceLT,Nat.reduceLeDiff,Nat.reduceEqDiff,Nat.reduceBEq,Int.reduceToNat,Int.reduceLT,Int.reduceLE,Int.reduceEq,Int.reduceNeg,Try.results22,dcml,xt3.2,xt3.ltT,xt3.leT,dci])
    refine AOpsL.call (first := []) (cap := []) hT rfl rfl rfl fn32 rfl (ACalls.mono (sortHold _ (nrI l v l.length) hh (by omega)) ?_)
    rintro y σ4 ⟨hh4, xt4⟩
    repeat (first | (with_reducible refine AW.seq ?_) | (with_reducible refine AW.block ?_) | (with_reducible refine AW.skip ?_) | (with_reducible refine AW.ret ?_) | (with_reducible refine AW.exit ?_) | (with_reducible refine AW.reg hT ?_) | ((with_reducible refine AW.cond_true ?_ ?_); · rfl) | ((with_reducible refine AW.cond_false ?_ ?_); · rfl) | simp (maxSteps := 3000000) (maxDischargeDepth := 12) only [push_cast,appendX,reduceIte,reduceCtorEq,Nat.reduceSub,Nat.reduceAdd,Nat.reduceMul,Nat.reduceLT,Nat.reduceLeDiff,Nat.reduceEqDiff,Nat.reduceBEq,Int.reduceToNat,Int.reduceLT,Int.reduceLE,Int.reduceEq,Int.reduceNeg,Try.results22,dcml,xt3.2,xt3.ltT,xt3.leT,dci,xt4.2,xt4.ltT,xt4.leT])
    refine AOpsL.call (first := []) (cap := []) hT rfl rfl rfl fn33 rfl (ACalls.mono (compactHold _ (srt (nrI l v l.length)) hh4 (by rw [(srt_perm _).length_eq]; omega)) ?_)
    rintro y σ5 ⟨hh5, hsub, xt5⟩
    have dncl := hh5.cells
    have dnlf := hh5.leaf
    repeat (first | (with_reducible refine AW.seq ?_) | (with_reducible refine AW.block ?_) | (with_reducible refine AW.skip ?_) | (with_reducible refine AW.ret ?_) | (with_reducible refine AW.exit ?_) | (with_reducible refine AW.reg hT ?_) | ((with_reducible refine AW.cond_true ?_ ?_); · rfl) | ((with_reducible refine AW.cond_false ?_ ?_); · rfl) | simp (maxSteps := 3000000) (maxDischargeDepth := 12) only [push_cast,appendX,reduceIte,reduceCtorEq,Nat.reduceSub,Nat.reduceAdd,Nat.reduceMul,Nat.reduceLT,Nat.reduceLeDiff,Nat.reduceEqDiff,Nat.reduceBEq,Int.reduceToNat,Int.reduceLT,Int.reduceLE,Int.reduceEq,Int.reduceNeg,Try.results22,dcml,xt3.2,xt3.ltT,xt3.leT,dci,xt4.2,xt4.ltT,xt4.leT,xt5.2,xt5.ltT,xt5.leT,↓dncl,↓dnlf])
    exact ⟨hh5, fun p hp => hnew p (hsub p hp), (xt3.then xt4 (fun p hp hl => absurd (hnew p hp) (by omega))).then xt5 (fun p hp hl => absurd (hnew p hp) (by omega))⟩
theorem gnear_ok (l : List Lk) (a b : Int) (h : l.length ≤ maxLen ∧ ∀ y ∈ l, wK y) (ha : (Lit.int .i64 a).wf = true) (hb : (Lit.int .i64 b).wf = true) : ACalls Try.prog 8 [.imm (l.map eK), .sc (.int .i64 a), .sc (.int .i64 b)] ⟨[]⟩ (fun x _ => x = .sc (.bool true)) := by
  generalize (⟨[]⟩ : Heap) = σ
  have dcml : (l.map eK).length = l.length := by simp
  refine ACalls.code hT Try.func8 rfl ?_
  simp only [Try.ntmps8, List.length_cons, List.length_nil, Nat.reduceSub, Nat.reduceAdd, List.replicate, List.cons_append, List.nil_append]
  repeat (first | (with_reducible refine AW.seq ?_) | (with_reducible refine AW.block ?_) | (with_reducible refine AW.skip ?_) | (with_reducible refine AW.ret ?_) | (with_reducible refine AW.exit ?_) | (with_reducible refine AW.reg hT ?_) | ((with_reducible refine AW.cond_true ?_ ?_); · rfl) | ((with_reducible refine AW.cond_false ?_ ?_); · rfl) | simp (maxSteps := 3000000) (maxDischargeDepth := 12) only [push_cast,appendX,reduceIte,reduceCtorEq,Nat.reduceSub,Nat.reduceAdd,Nat.reduceMul,Nat.reduceLT,Nat.reduceLeDiff,Nat.reduceEqDiff,Nat.reduceBEq,Int.reduceToNat,Int.reduceLT,Int.reduceLE,Int.reduceEq,Int.reduceNeg,Try.results8,dcml])
  refine AOpsL.call (first := []) (cap := []) hT rfl rfl rfl fn9 rfl (ACalls.mono (alive_ok _) ?_)
  rintro y σ1 ⟨rfl, xt1⟩
  by_cases h2 : 200 < l.length
  · have dc2 : decide (200 < (l.length : Int)) = true := decide_eq_true (by omega)
    repeat (first | (with_reducible refine AW.seq ?_) | (with_reducible refine AW.block ?_) | (with_reducible refine AW.skip ?_) | (with_reducible refine AW.ret ?_) | (with_reducible refine AW.exit ?_) | (with_reducible refine AW.reg hT ?_) | ((with_reducible refine AW.cond_true ?_ ?_); · rfl) | ((with_reducible refine AW.cond_false ?_ ?_); · rfl) | simp (maxSteps := 3000000) (maxDischargeDepth := 12) only [push_cast,appendX,reduceIte,reduceCtorEq,Nat.reduceSub,Nat.reduceAdd,Nat.reduceMul,Nat.reduceLT,Nat.reduceLeDiff,Nat.reduceEqDiff,Nat.reduceBEq,Int.reduceToNat,Int.reduceLT,Int.reduceLE,Int.reduceEq,Int.reduceNeg,Try.results8,dcml,xt1.2,xt1.ltT,xt1.leT,dc2])
  have dc2 : decide (200 < (l.length : Int)) = false := decide_eq_false (by omega)
  have hla := nearA_len l a
  have hlb := nearA_len l b
  have hbo := near_both l a b
  have dcbb : (decide (b ∈ nearA l a) == decide (a ∈ nearA l b)) = true := by rw [hbo]; simp
  repeat (first | (with_reducible refine AW.seq ?_) | (with_reducible refine AW.block ?_) | (with_reducible refine AW.skip ?_) | (with_reducible refine AW.ret ?_) | (with_reducible refine AW.exit ?_) | (with_reducible refine AW.reg hT ?_) | ((with_reducible refine AW.cond_true ?_ ?_); · rfl) | ((with_reducible refine AW.cond_false ?_ ?_); · rfl) | simp (maxSteps := 3000000) (maxDischargeDepth := 12) only [push_cast,appendX,reduceIte,reduceCtorEq,Nat.reduceSub,Nat.reduceAdd,Nat.reduceMul,Nat.reduceLT,Nat.reduceLeDiff,Nat.reduceEqDiff,Nat.reduceBEq,Int.reduceToNat,Int.reduceLT,Int.reduceLE,Int.reduceEq,Int.reduceNeg,Try.results8,dcml,xt1.2,xt1.ltT,xt1.leT,dc2,dcbb])
  refine AOpsL.call (first := []) (cap := []) hT rfl rfl rfl fn22 rfl (ACalls.mono (pnear_ok _ l a (by omega)) ?_)
  rintro y σ2 ⟨rfl, xt2⟩
  repeat (first | (with_reducible refine AW.seq ?_) | (with_reducible refine AW.block ?_) | (with_reducible refine AW.skip ?_) | (with_reducible refine AW.ret ?_) | (with_reducible refine AW.exit ?_) | (with_reducible refine AW.reg hT ?_) | ((with_reducible refine AW.cond_true ?_ ?_); · rfl) | ((with_reducible refine AW.cond_false ?_ ?_); · rfl) | simp (maxSteps := 3000000) (maxDischargeDepth := 12) only [push_cast,appendX,reduceIte,reduceCtorEq,Nat.reduceSub,Nat.reduceAdd,Nat.reduceMul,Nat.reduceLT,Nat.reduceLeDiff,Nat.reduceEqDiff,Nat.reduceBEq,Int.reduceToNat,Int.reduceLT,Int.reduceLE,Int.reduceEq,Int.reduceNeg,Try.results8,dcml,xt1.2,xt1.ltT,xt1.leT,dc2,dcbb,xt2.2,xt2.ltT,xt2.leT])
  refine AOpsL.call (first := []) (cap := []) hT rfl rfl rfl fn24 rfl (ACalls.mono (has_ok _ (nearA l a) b (by omega)) ?_)
  rintro y σ3 ⟨rfl, rfl⟩
  repeat (first | (with_reducible refine AW.seq ?_) | (with_reducible refine AW.block ?_) | (with_reducible refine AW.skip ?_) | (with_reducible refine AW.ret ?_) | (with_reducible refine AW.exit ?_) | (with_reducible refine AW.reg hT ?_) | ((with_reducible refine AW.cond_true ?_ ?_); · rfl) | ((with_reducible refine AW.cond_false ?_ ?_); · rfl) | simp (maxSteps := 3000000) (maxDischargeDepth := 12) only [push_cast,appendX,reduceIte,reduceCtorEq,Nat.reduceSub,Nat.reduceAdd,Nat.reduceMul,Nat.reduceLT,Nat.reduceLeDiff,Nat.reduceEqDiff,Nat.reduceBEq,Int.reduceToNat,Int.reduceLT,Int.reduceLE,Int.reduceEq,Int.reduceNeg,Try.results8,dcml,xt1.2,xt1.ltT,xt1.leT,dc2,dcbb,xt2.2,xt2.ltT,xt2.leT])
  refine AOpsL.call (first := []) (cap := []) hT rfl rfl rfl fn22 rfl (ACalls.mono (pnear_ok _ l b (by omega)) ?_)
  rintro y σ4 ⟨rfl, xt4⟩
  repeat (first | (with_reducible refine AW.seq ?_) | (with_reducible refine AW.block ?_) | (with_reducible refine AW.skip ?_) | (with_reducible refine AW.ret ?_) | (with_reducible refine AW.exit ?_) | (with_reducible refine AW.reg hT ?_) | ((with_reducible refine AW.cond_true ?_ ?_); · rfl) | ((with_reducible refine AW.cond_false ?_ ?_); · rfl) | simp (maxSteps := 3000000) (maxDischargeDepth := 12) only [push_cast,appendX,reduceIte,reduceCtorEq,Nat.reduceSub,Nat.reduceAdd,Nat.reduceMul,Nat.reduceLT,Nat.reduceLeDiff,Nat.reduceEqDiff,Nat.reduceBEq,Int.reduceToNat,Int.reduceLT,Int.reduceLE,Int.reduceEq,Int.reduceNeg,Try.results8,dcml,xt1.2,xt1.ltT,xt1.leT,dc2,dcbb,xt2.2,xt2.ltT,xt2.leT,xt4.2,xt4.ltT,xt4.leT])
  refine AOpsL.call (first := []) (cap := []) hT rfl rfl rfl fn24 rfl (ACalls.mono (has_ok _ (nearA l b) a (by omega)) ?_)
  rintro y σ5 ⟨rfl, rfl⟩
  repeat (first | (with_reducible refine AW.seq ?_) | (with_reducible refine AW.block ?_) | (with_reducible refine AW.skip ?_) | (with_reducible refine AW.ret ?_) | (with_reducible refine AW.exit ?_) | (with_reducible refine AW.reg hT ?_) | ((with_reducible refine AW.cond_true ?_ ?_); · rfl) | ((with_reducible refine AW.cond_false ?_ ?_); · rfl) | simp (maxSteps := 3000000) (maxDischargeDepth := 12) only [push_cast,appendX,reduceIte,reduceCtorEq,Nat.reduceSub,Nat.reduceAdd,Nat.reduceMul,Nat.reduceLT,Nat.reduceLeDiff,Nat.reduceEqDiff,Nat.reduceBEq,Int.reduceToNat,Int.reduceLT,Int.reduceLE,Int.reduceEq,Int.reduceNeg,Try.results8,dcml,xt1.2,xt1.ltT,xt1.leT,dc2,dcbb,xt2.2,xt2.ltT,xt2.leT,xt4.2,xt4.ltT,xt4.leT])
end Go.Proofs.Ytpigelcckiejiaa.Cm
