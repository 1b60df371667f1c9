/- graph.Outs, however many links lead from a node. -/
import Derived.Test.YtpigelcckiejiaaGYa
import Derived.Test.YtpigelcckiejiaaGYc
namespace Go.Proofs.Ytpigelcckiejiaa.Cm
open Go.RowKit
set_option linter.unusedVariables false
set_option linter.unusedSimpArgs false
set_option maxRecDepth 20000
set_option maxHeartbeats 8000000
/-- The sort, of a row that was made on the way. -/
theorem sortHF_ok (σ : Heap) (l : List Lk) {q : Nat} {d : DV} (S : List Nat) (hh : Hold σ d 3 (S.map eI)) (gtq : σ.get q = some (LB l)) (hS : S.Pairwise (· < ·)) (hSl : ∀ x ∈ S, x < l.length) (hbig : S.length ≤ 1000000) :
    ACalls Try.prog 27 [d, .fn (.func 28) [] [.ptr q 0 0 1]] σ (fun y σ' => ∃ S' : List Nat, S'.Perm S ∧ S'.Pairwise (Rk l) ∧ Hold σ' d 3 (S'.map eI) ∧ Ext (tOf d) σ σ') := by
  rcases hh with ⟨rfl, he⟩ | ⟨t, full, rfl, gtt, hle, htk⟩
  · have : S = [] := by simpa using he
    subst this
    refine (sort_nil σ [.ptr q 0 0 1]).mono ?_
    rintro y σ' rfl
    exact ⟨[], List.Perm.refl _, by simp, Hold.nil _ _, Ext.refl _ _⟩
  · have hfull : full = S.map eI ++ full.drop S.length := by
      rw [List.length_map] at htk
      conv => lhs; rw [← List.take_append_drop S.length full, htk]
    rw [List.length_map] at hle
    have h := sort_ok σ l (t := t) (q := q) S (full.drop S.length) S.length full.length rfl (by rw [List.length_drop]; omega) (by rw [gtt, ← hfull]) gtq hS hSl hbig
    rw [List.length_map]
    refine h.mono ?_
    rintro y σ' ⟨S', h1, h2, h3, h4⟩
    refine ⟨S', h1, h2, .inr ⟨t, S'.map eI ++ full.drop S.length, ?_, h3, by simp, by simp⟩, by simpa [tOf] using h4⟩
    have := h1.length_eq
    simp [this]; omega
theorem outsF_ok (σ : Heap) (l : List Lk) (v : Int) (hl : l.length ≤ 1000000) :
    ACalls Try.prog 16 [.imm (l.map eK), .sc (.int .i64 v)] σ (fun x σ' => ∃ S : List Nat, (S.Perm (outsI l v l.length) ∧ S.Pairwise (Rk l)) ∧ x = .imm (S.map eI) ∧ Ext [] σ σ') := by
  have dcml : (l.map eK).length = l.length := by simp
  refine toImmE (e := 3) ?_
  refine ACalls.code hT Try.func16 rfl ?_
  simp only [Try.ntmps16, List.length_cons, List.length_nil, Nat.reduceSub, Nat.reduceAdd, List.replicate, List.cons_append, List.nil_append]
  repeat (first | (with_reducible refine AW.seq ?_) | (with_reducible refine AW.block ?_) | (with_reducible refine AW.skip ?_) | (with_reducible refine AW.ret ?_) | (with_reducible refine AW.exit ?_) | (with_reducible refine AW.reg hT ?_) | ((with_reducible refine AW.cond_true ?_ ?_); · rfl) | ((with_reducible refine AW.cond_false ?_ ?_); · rfl) | simp (maxSteps := 3000000) (maxDischargeDepth := 12) only [push_cast,appendX,reduceIte,reduceCtorEq,Nat.reduceSub,Nat.reduceAdd,Nat.reduceMul,Nat.reduceLT,Nat.reduceLeDiff,Nat.reduceEqDiff,Nat.reduceBEq,Int.reduceToNat,Int.reduceLT,Int.reduceLE,Int.reduceEq,Int.reduceNeg,Try.results16,dcml])
  refine AW.loop (ouI l v σ.n σ) (m := l.length + 1) ⟨0, .sc (.slice none 0 0), rfl, Nat.zero_le _, Hold.nil _ _, by simp [tOf], by simp (maxSteps := 3000000) (maxDischargeDepth := 12) only [push_cast, appendX, Nat.reduceAdd, Nat.reduceEqDiff, Nat.reduceLT, Nat.reduceLeDiff, reduceIte, reduceCtorEq, LB, dcml], by repeat (first | exact Ext.refl _ _ | assumption | refine Ext.push ?_ _ | ((refine Ext.set ?_ ?_ _); rotate_left; · (simp (maxSteps := 3000000) (maxDischargeDepth := 12) only [push_cast, appendX, Nat.reduceAdd, Nat.reduceEqDiff, Nat.reduceLT, Nat.reduceLeDiff, reduceIte, reduceCtorEq, dcml])) | ((refine Ext.then1 (by assumption) ?_ ?_); rotate_left; · (intro p hp _; first | assumption | exact List.mem_cons_of_mem _ hp | (cases hp; done) | (simp at hp; subst hp; simp)))), by (simp only [push_cast, TellsL, tells_any, tells_refl])⟩ ?_
  have hqn : σ.n ≤ σ.n := Nat.le_refl _
  generalize hq : σ.n = q at hqn ⊢
  rintro m ts σ3 ⟨i, d, rfl, hil, hh, hnew, gtq, xt3, hts⟩
  refine AW.told hts ?_
  clear hts
  have hlt := Heap.lt gtq
  by_cases hi : i < l.length
  · have dci : decide ((i : Int) < (l.length : Int)) = true := by simp; omega
    have dci2 : ((i : Int) < (l.length : Int)) = True := by simp; omega
    have dci0 : ((0 : Int) ≤ (i : Int)) = True := by simp
    obtain ⟨x, hx⟩ : ∃ x, l[i]? = some x := ⟨_, List.getElem?_eq_getElem hi⟩
    have dcel : (l.map eK)[i]? = some (eK x) := by rw [List.getElem?_map, hx]; rfl
    rw [eK_eq] at dcel
    have dcw : IntKind.i64.wrap ((i : Int) + 1) = (i : Int) + 1 := wrap_i64 (by omega) (by omega)
    have hol := outsI_len l v i
    by_cases hv : x.f0 = v
    · have dcv : (x.f0 == v) = true := by simpa using hv
      have hou : (outsI l v (i + 1)).map eI = (outsI l v i).map eI ++ [[.sc (.int .i64 (i : Int))]] := by
        rw [outsI, hx]; simp [hv, eI]
      obtain ⟨d5, σ5, dnapp, hh5, hnew5, xt5, xt6⟩ := Hold.app1x (ty := 23) (x := [.sc (.int .i64 (i : Int))]) (σ0 := σ) (σ := (σ3.push ⟨[[.sc (.int .i64 0), .sc (.int .i64 0), .sc (.int .u64 0), .sc (.int .i64 0), .sc (.int .u32 0)]], 43, true⟩).set σ3.n ⟨[eK x], 43, true⟩) (hh.frame (X := []) (by repeat (first | exact Ext.refl _ _ | assumption | refine Ext.push ?_ _ | ((refine Ext.set ?_ ?_ _); rotate_left; · (simp (maxSteps := 3000000) (maxDischargeDepth := 12) only [push_cast, appendX, Nat.reduceAdd, Nat.reduceEqDiff, Nat.reduceLT, Nat.reduceLeDiff, reduceIte, reduceCtorEq, dcml, gtq, Heap.lt gtq, xt3.2, xt3.ltT, xt3.leT, dci, dci2, dci0, dcel, dcw, dcv])) | ((refine Ext.then1 (by assumption) ?_ ?_); rotate_left; · (intro p hp _; first | assumption | exact List.mem_cons_of_mem _ hp | (cases hp; done) | (simp at hp; subst hp; simp))))) (by simp)) hnew (by repeat (first | exact Ext.refl _ _ | assumption | refine Ext.push ?_ _ | ((refine Ext.set ?_ ?_ _); rotate_left; · (simp (maxSteps := 3000000) (maxDischargeDepth := 12) only [push_cast, appendX, Nat.reduceAdd, Nat.reduceEqDiff, Nat.reduceLT, Nat.reduceLeDiff, reduceIte, reduceCtorEq, dcml, gtq, Heap.lt gtq, xt3.2, xt3.ltT, xt3.leT, dci, dci2, dci0, dcel, dcw, dcv])) | ((refine Ext.then1 (by assumption) ?_ ?_); rotate_left; · (intro p hp _; first | assumption | exact List.mem_cons_of_mem _ hp | (cases hp; done) | (simp at hp; subst hp; simp))))) rfl rfl (by decide) rfl (by simp; omega)
      have gtq5 := xt6.get (p := q) (o := LB l) (by simp (maxSteps := 3000000) (maxDischargeDepth := 12) only [push_cast, appendX, Nat.reduceAdd, Nat.reduceEqDiff, Nat.reduceLT, Nat.reduceLeDiff, reduceIte, reduceCtorEq, gtq, dcml, gtq, Heap.lt gtq, xt3.2, xt3.ltT, xt3.leT, dci, dci2, dci0, dcel, dcw, dcv, ↓dnapp, xt5.2, xt5.ltT, xt5.leT, xt6.2, xt6.ltT, xt6.leT]) (hh.ne gtq (by simp [LB]))
      simp only [eK_eq, Heap.n_set, Heap.n_push] at dnapp
      clear xt6
      repeat (first | (with_reducible refine AW.seq ?_) | (with_reducible refine AW.block ?_) | (with_reducible refine AW.skip ?_) | (with_reducible refine AW.ret ?_) | (with_reducible refine AW.exit ?_) | (with_reducible refine AW.reg hT ?_) | ((with_reducible refine AW.cond_true ?_ ?_); · rfl) | ((with_reducible refine AW.cond_false ?_ ?_); · rfl) | simp (maxSteps := 3000000) (maxDischargeDepth := 12) only [push_cast,appendX,reduceIte,reduceCtorEq,Nat.reduceSub,Nat.reduceAdd,Nat.reduceMul,Nat.reduceLT,Nat.reduceLeDiff,Nat.reduceEqDiff,Nat.reduceBEq,Int.reduceToNat,Int.reduceLT,Int.reduceLE,Int.reduceEq,Int.reduceNeg,Try.results16,dcml,gtq,Heap.lt gtq,xt3.2,xt3.ltT,xt3.leT,dci,dci2,dci0,dcel,dcw,dcv,↓dnapp,xt5.2,xt5.ltT,xt5.leT,gtq5,Heap.lt gtq5])
      exact ⟨l.length + 1 - (i + 1), by omega, i + 1, d5, rfl, hi, by rw [hou]; exact hh5, hnew5, gtq5, xt5, by (simp only [push_cast, TellsL, tells_any, tells_refl])⟩
    · have dcv : (x.f0 == v) = false := by simpa using hv
      have hou : outsI l v (i + 1) = outsI l v i := by rw [outsI, hx]; simp [hv]
      repeat (first | (with_reducible refine AW.seq ?_) | (with_reducible refine AW.block ?_) | (with_reducible refine AW.skip ?_) | (with_reducible refine AW.ret ?_) | (with_reducible refine AW.exit ?_) | (with_reducible refine AW.reg hT ?_) | ((with_reducible refine AW.cond_true ?_ ?_); · rfl) | ((with_reducible refine AW.cond_false ?_ ?_); · rfl) | simp (maxSteps := 3000000) (maxDischargeDepth := 12) only [push_cast,appendX,reduceIte,reduceCtorEq,Nat.reduceSub,Nat.reduceAdd,Nat.reduceMul,Nat.reduceLT,Nat.reduceLeDiff,Nat.reduceEqDiff,Nat.reduceBEq,Int.reduceToNat,Int.reduceLT,Int.reduceLE,Int.reduceEq,Int.reduceNeg,Try.results16,dcml,gtq,Heap.lt gtq,xt3.2,xt3.ltT,xt3.leT,dci,dci2,dci0,dcel,dcw,dcv])
      exact ⟨l.length + 1 - (i + 1), by omega, i + 1, d, rfl, hi, by rw [hou]; exact hh.frame (X := []) (by repeat (first | exact Ext.refl _ _ | assumption | refine Ext.push ?_ _ | ((refine Ext.set ?_ ?_ _); rotate_left; · (simp (maxSteps := 3000000) (maxDischargeDepth := 12) only [push_cast, appendX, Nat.reduceAdd, Nat.reduceEqDiff, Nat.reduceLT, Nat.reduceLeDiff, reduceIte, reduceCtorEq, dcml, gtq, Heap.lt gtq, xt3.2, xt3.ltT, xt3.leT, dci, dci2, dci0, dcel, dcw, dcv])) | ((refine Ext.then1 (by assumption) ?_ ?_); rotate_left; · (intro p hp _; first | assumption | exact List.mem_cons_of_mem _ hp | (cases hp; done) | (simp at hp; subst hp; simp))))) (by simp), hnew, by simp (maxSteps := 3000000) (maxDischargeDepth := 12) only [push_cast, appendX, Nat.reduceAdd, Nat.reduceEqDiff, Nat.reduceLT, Nat.reduceLeDiff, reduceIte, reduceCtorEq, gtq, dcml, gtq, Heap.lt gtq, xt3.2, xt3.ltT, xt3.leT, dci, dci2, dci0, dcel, dcw, dcv], by repeat (first | exact Ext.refl _ _ | assumption | refine Ext.push ?_ _ | ((refine Ext.set ?_ ?_ _); rotate_left; · (simp (maxSteps := 3000000) (maxDischargeDepth := 12) only [push_cast, appendX, Nat.reduceAdd, Nat.reduceEqDiff, Nat.reduceLT, Nat.reduceLeDiff, reduceIte, reduceCtorEq, dcml, gtq, Heap.lt gtq, xt3.2, xt3.ltT, xt3.leT, dci, dci2, dci0, dcel, dcw, dcv])) | ((refine Ext.then1 (by assumption) ?_ ?_); rotate_left; · (intro p hp _; first | assumption | exact List.mem_cons_of_mem _ hp | (cases hp; done) | (simp at hp; subst hp; simp)))), by (simp only [push_cast, TellsL, tells_any, tells_refl])⟩
  · have dci : decide ((i : Int) < (l.length : Int)) = false := by simp; omega
    have he : i = l.length := by omega
    subst he
    have dncl := hh.cells
    have dnlf := hh.leaf
    repeat (first | (with_reducible refine AW.seq ?_) | (with_reducible refine AW.block ?_) | (with_reducible refine AW.skip ?_) | (with_reducible refine AW.ret ?_) | (with_reducible refine AW.exit ?_) | (with_reducible refine AW.reg hT ?_) | ((with_reducible refine AW.cond_true ?_ ?_); · rfl) | ((with_reducible refine AW.cond_false ?_ ?_); · rfl) | simp (maxSteps := 3000000) (maxDischargeDepth := 12) only [push_cast,appendX,reduceIte,reduceCtorEq,Nat.reduceSub,Nat.reduceAdd,Nat.reduceMul,Nat.reduceLT,Nat.reduceLeDiff,Nat.reduceEqDiff,Nat.reduceBEq,Int.reduceToNat,Int.reduceLT,Int.reduceLE,Int.reduceEq,Int.reduceNeg,Try.results16,dcml,gtq,Heap.lt gtq,xt3.2,xt3.ltT,xt3.leT,dci,↓dncl,↓dnlf])
    refine AOpsL.call (first := []) (cap := []) hT rfl rfl rfl fn27 rfl (ACalls.mono (sortHF_ok _ l (outsI l v l.length) hh gtq (outsI_sorted l v _) (fun k hk => outsI_lt l v _ k hk) (by have := outsI_len l v l.length; omega)) ?_)
    rintro y σ4 ⟨S, h1, h2, hh4, xt4⟩
    repeat (first | (with_reducible refine AW.seq ?_) | (with_reducible refine AW.block ?_) | (with_reducible refine AW.skip ?_) | (with_reducible refine AW.ret ?_) | (with_reducible refine AW.exit ?_) | (with_reducible refine AW.reg hT ?_) | ((with_reducible refine AW.cond_true ?_ ?_); · rfl) | ((with_reducible refine AW.cond_false ?_ ?_); · rfl) | simp (maxSteps := 3000000) (maxDischargeDepth := 12) only [push_cast,appendX,reduceIte,reduceCtorEq,Nat.reduceSub,Nat.reduceAdd,Nat.reduceMul,Nat.reduceLT,Nat.reduceLeDiff,Nat.reduceEqDiff,Nat.reduceBEq,Int.reduceToNat,Int.reduceLT,Int.reduceLE,Int.reduceEq,Int.reduceNeg,Try.results16,dcml,gtq,Heap.lt gtq,xt3.2,xt3.ltT,xt3.leT,dci,↓dncl,↓dnlf,xt4.2,xt4.ltT,xt4.leT])
    exact ⟨S, ⟨h1, h2⟩, hh4, fun p hp => hq ▸ hnew p hp, xt3.then xt4 (fun p hp hl => absurd (hnew p hp) (by omega))⟩
end Go.Proofs.Ytpigelcckiejiaa.Cm
