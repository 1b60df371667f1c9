/- The answers that the document fixes. -/
import Derived.Test.YtpigelcckiejiaaGF3
namespace Go.Proofs.Ytpigelcckiejiaa.Cm
open Go.RowKit
set_option linter.unusedVariables false
set_option linter.unusedSimpArgs false
set_option maxRecDepth 20000
set_option maxHeartbeats 8000000
def l3 : List Lk := [⟨0, 1, 0, 5, 0⟩, ⟨1, 2, 0, 7, 0⟩, ⟨1, 0, 0, 1, 0⟩]
theorem w3 : ∀ x ∈ l3, wK x := by
  intro x hx
  simp only [l3, List.mem_cons, List.not_mem_nil, or_false] at hx
  rcases hx with rfl | rfl | rfl <;> exact ⟨rfl, rfl, rfl, rfl, rfl⟩
theorem s3 : smallL l3 := by
  intro x hx
  simp only [l3, List.mem_cons, List.not_mem_nil, or_false] at hx
  rcases hx with rfl | rfl | rfl <;> simp
theorem chk33 : chk 3 l3 = 0 := by kernel_rfl
theorem chk23 : chk 2 l3 = 2 := by kernel_rfl
theorem fnd3 : fnd l3 1 2 = 1 := by kernel_rfl
theorem rt3a : rtv l3 [0, 1, 2] = (12, 0) := by kernel_rfl
theorem rt3b : rtv l3 [0, 1, 0] = (0, 12) := by kernel_rfl
theorem out3 : outsI l3 1 3 = [1, 2] := by kernel_rfl
theorem srt3 {S : List Nat} (h : S.Perm (outsI l3 1 l3.length)) (hp : S.Pairwise (Rk l3)) : S = [2, 1] := by
  rw [show l3.length = 3 from rfl, out3] at h
  have hl := h.length_eq
  match S, hl with
  | [a, b], _ =>
    have ha : a ∈ [1, 2] := h.mem_iff.1 (by simp)
    have hb : b ∈ [1, 2] := h.mem_iff.1 (by simp)
    have hR : Rk l3 a b := by simpa using hp
    have h1 : (1 : Nat) ∈ [a, b] := h.mem_iff.2 (by simp)
    have h2 : (2 : Nat) ∈ [a, b] := h.mem_iff.2 (by simp)
    simp only [List.mem_cons, List.not_mem_nil, or_false] at ha hb h1 h2
    have hk1 : key l3 1 = 2 := rfl
    have hk2 : key l3 2 = 0 := rfl
    rcases ha with rfl | rfl
    · rcases hb with rfl | rfl
      · omega
      · rw [Rk, hk1, hk2] at hR; omega
    · rcases hb with rfl | rfl
      · rfl
      · omega
theorem proute_hold (σ : Heap) (l : List Lk) (r : List Int) (hs : smallL l) (hl : l.length ≤ 1000000) {d : DV} (hh : Hold σ d 3 (r.map eZ)) : ACalls Try.prog 11 [.imm (l.map eK), d] σ (fun y σ' => y = .tup [.sc (.int .i64 (rtv l r).1), .sc (.int .i64 (rtv l r).2)] ∧ Ext (tOf d) σ σ') :=
  ACalls.holdArg (j := 1) hh rfl (fun σ1 x1 => (proute_ok σ1 l r hs hl).mono (fun y σ2 h => ⟨h.1, x1.trans (h.2.mono (by simp))⟩))
theorem ints_hold (σ : Heap) (r : List Int) (hl : r.length ≤ 1000000) {d : DV} (hh : Hold σ d 3 (r.map eZ)) : ACalls Try.prog 20 [.imm (r.map eZ), d] σ (fun y σ' => y = .sc (.bool true) ∧ Ext (tOf d) σ σ') :=
  ACalls.holdArg (j := 1) hh rfl (fun σ1 x1 => (ints_ok σ1 r hl).mono (fun y σ2 h => ⟨h.1, by rw [h.2]; exact x1⟩))
theorem alive_ok (σ : Heap) : ACalls Try.prog 9 [] σ (fun x σ' => x = .sc (.bool true) ∧ Ext [] σ σ') := by
  refine ACalls.code hT Try.func9 rfl ?_
  simp only [Try.ntmps9, List.length_cons, List.length_nil, Nat.reduceSub, Nat.reduceAdd, List.replicate, List.cons_append, List.nil_append]
  repeat ((fail_if_success (with_reducible refine AW.at1 (id := 2) ?_)); (fail_if_success (with_reducible refine AW.at2 (id := 2) ?_)); first | (with_reducible refine AW.seq ?_) | (with_reducible refine AW.block ?_) | (with_reducible refine AW.skip ?_) | (with_reducible refine AW.ret ?_) | (with_reducible refine AW.exit ?_) | (with_reducible refine AW.reg hT ?_) | ((with_reducible refine AW.cond_true ?_ ?_); · rfl) | ((with_reducible refine AW.cond_false ?_ ?_); · rfl) | simp (maxSteps := 3000000) (maxDischargeDepth := 12) only [push_cast,appendX,reduceIte,reduceCtorEq,Nat.reduceSub,Nat.reduceAdd,Nat.reduceMul,Nat.reduceLT,Nat.reduceLeDiff,Nat.reduceEqDiff,Nat.reduceBEq,Int.reduceToNat,Int.reduceLT,Int.reduceLE,Int.reduceEq,Int.reduceNeg,Try.results9])
  refine AW.holdSlot (j := 1) (els := l3.map eK) (e := 43) (Hold.row (els := l3.map eK) (t := σ.n) (by simp (maxSteps := 3000000) (maxDischargeDepth := 12) only [push_cast, appendX, Nat.reduceAdd, Nat.reduceEqDiff, Nat.reduceLT, Nat.reduceLeDiff, reduceIte, reduceCtorEq, l3, eK_eq, List.map_cons, List.map_nil])) rfl (fun σ1 xt1 => ?_)
  simp only [tOf] at xt1
  have xt2 : Ext [] σ σ1 := Ext.then1 xt1 (by repeat (first | exact Ext.refl _ _ | assumption | refine Ext.push ?_ _ | ((refine Ext.set ?_ ?_ _); rotate_left; · (simp (maxSteps := 3000000) (maxDischargeDepth := 12) only [push_cast, appendX, Nat.reduceAdd, Nat.reduceEqDiff, Nat.reduceLT, Nat.reduceLeDiff, reduceIte, reduceCtorEq])) | ((refine Ext.then1 (by assumption) ?_ ?_); rotate_left; · (intro p hp _; first | assumption | exact List.mem_cons_of_mem _ hp | (cases hp; done) | (simp at hp; subst hp; simp))))) (by intro p hp; simp at hp; omega)
  clear xt1
  simp only [List.set_cons_succ, List.set_cons_zero]
  repeat (first | (with_reducible refine AW.seq ?_) | (with_reducible refine AW.block ?_) | (with_reducible refine AW.skip ?_) | (with_reducible refine AW.ret ?_) | (with_reducible refine AW.exit ?_) | (with_reducible refine AW.reg hT ?_) | ((with_reducible refine AW.cond_true ?_ ?_); · rfl) | ((with_reducible refine AW.cond_false ?_ ?_); · rfl) | simp (maxSteps := 3000000) (maxDischargeDepth := 12) only [push_cast,appendX,reduceIte,reduceCtorEq,Nat.reduceSub,Nat.reduceAdd,Nat.reduceMul,Nat.reduceLT,Nat.reduceLeDiff,Nat.reduceEqDiff,Nat.reduceBEq,Int.reduceToNat,Int.reduceLT,Int.reduceLE,Int.reduceEq,Int.reduceNeg,Try.results9,xt2.2,xt2.ltT,xt2.leT])
  refine AOpsL.call (first := []) (cap := []) hT rfl rfl rfl fn11 rfl (ACalls.mono (proute_hold _ l3 [0, 1, 2] s3 (by decide) (Hold.row (els := ([0, 1, 2] : List Int).map eZ) (t := σ1.n) (by simp (maxSteps := 3000000) (maxDischargeDepth := 12) only [push_cast, appendX, Nat.reduceAdd, Nat.reduceEqDiff, Nat.reduceLT, Nat.reduceLeDiff, reduceIte, reduceCtorEq, eZ, List.map_cons, List.map_nil, xt2.2, xt2.ltT, xt2.leT]))) ?_)
  rw [rt3a]
  rintro y σ2 ⟨rfl, xt3⟩
  have xt4 : Ext [] σ σ2 := (xt2.push _).then xt3 (by intro p hp hl; simp [tOf] at hp; have := xt2.1; omega)
  clear xt2 xt3
  repeat (first | (with_reducible refine AW.seq ?_) | (with_reducible refine AW.block ?_) | (with_reducible refine AW.skip ?_) | (with_reducible refine AW.ret ?_) | (with_reducible refine AW.exit ?_) | (with_reducible refine AW.reg hT ?_) | ((with_reducible refine AW.cond_true ?_ ?_); · rfl) | ((with_reducible refine AW.cond_false ?_ ?_); · rfl) | simp (maxSteps := 3000000) (maxDischargeDepth := 12) only [push_cast,appendX,reduceIte,reduceCtorEq,Nat.reduceSub,Nat.reduceAdd,Nat.reduceMul,Nat.reduceLT,Nat.reduceLeDiff,Nat.reduceEqDiff,Nat.reduceBEq,Int.reduceToNat,Int.reduceLT,Int.reduceLE,Int.reduceEq,Int.reduceNeg,Try.results9,xt4.2,xt4.ltT,xt4.leT])
  refine AOpsL.call (first := []) (cap := []) hT rfl rfl rfl fn11 rfl (ACalls.mono (proute_hold _ l3 [0, 1, 0] s3 (by decide) (Hold.row (els := ([0, 1, 0] : List Int).map eZ) (t := σ2.n) (by simp (maxSteps := 3000000) (maxDischargeDepth := 12) only [push_cast, appendX, Nat.reduceAdd, Nat.reduceEqDiff, Nat.reduceLT, Nat.reduceLeDiff, reduceIte, reduceCtorEq, eZ, List.map_cons, List.map_nil, xt4.2, xt4.ltT, xt4.leT]))) ?_)
  rw [rt3b]
  rintro y σ3 ⟨rfl, xt5⟩
  have xt6 : Ext [] σ σ3 := (xt4.push _).then xt5 (by intro p hp hl; simp [tOf] at hp; have := xt4.1; omega)
  clear xt4 xt5
  repeat (first | (with_reducible refine AW.seq ?_) | (with_reducible refine AW.block ?_) | (with_reducible refine AW.skip ?_) | (with_reducible refine AW.ret ?_) | (with_reducible refine AW.exit ?_) | (with_reducible refine AW.reg hT ?_) | ((with_reducible refine AW.cond_true ?_ ?_); · rfl) | ((with_reducible refine AW.cond_false ?_ ?_); · rfl) | simp (maxSteps := 3000000) (maxDischargeDepth := 12) only [push_cast,appendX,reduceIte,reduceCtorEq,Nat.reduceSub,Nat.reduceAdd,Nat.reduceMul,Nat.reduceLT,Nat.reduceLeDiff,Nat.reduceEqDiff,Nat.reduceBEq,Int.reduceToNat,Int.reduceLT,Int.reduceLE,Int.reduceEq,Int.reduceNeg,Try.results9,xt6.2,xt6.ltT,xt6.leT])
  refine AOpsL.call (first := []) (cap := []) hT rfl rfl rfl fn15 rfl (ACalls.mono (pcheck_ok _ 3 l3 w3) ?_)
  rw [chk33]
  rintro y σ4 ⟨rfl, xt7⟩
  have xt8 := xt6.trans xt7
  clear xt6 xt7
  repeat (first | (with_reducible refine AW.seq ?_) | (with_reducible refine AW.block ?_) | (with_reducible refine AW.skip ?_) | (with_reducible refine AW.ret ?_) | (with_reducible refine AW.exit ?_) | (with_reducible refine AW.reg hT ?_) | ((with_reducible refine AW.cond_true ?_ ?_); · rfl) | ((with_reducible refine AW.cond_false ?_ ?_); · rfl) | simp (maxSteps := 3000000) (maxDischargeDepth := 12) only [push_cast,appendX,reduceIte,reduceCtorEq,Nat.reduceSub,Nat.reduceAdd,Nat.reduceMul,Nat.reduceLT,Nat.reduceLeDiff,Nat.reduceEqDiff,Nat.reduceBEq,Int.reduceToNat,Int.reduceLT,Int.reduceLE,Int.reduceEq,Int.reduceNeg,Try.results9,xt8.2,xt8.ltT,xt8.leT])
  refine AOpsL.call (first := []) (cap := []) hT rfl rfl rfl fn15 rfl (ACalls.mono (pcheck_ok _ 2 l3 w3) ?_)
  rw [chk23]
  rintro y σ5 ⟨rfl, xt9⟩
  have xtA := xt8.trans xt9
  clear xt8 xt9
  repeat (first | (with_reducible refine AW.seq ?_) | (with_reducible refine AW.block ?_) | (with_reducible refine AW.skip ?_) | (with_reducible refine AW.ret ?_) | (with_reducible refine AW.exit ?_) | (with_reducible refine AW.reg hT ?_) | ((with_reducible refine AW.cond_true ?_ ?_); · rfl) | ((with_reducible refine AW.cond_false ?_ ?_); · rfl) | simp (maxSteps := 3000000) (maxDischargeDepth := 12) only [push_cast,appendX,reduceIte,reduceCtorEq,Nat.reduceSub,Nat.reduceAdd,Nat.reduceMul,Nat.reduceLT,Nat.reduceLeDiff,Nat.reduceEqDiff,Nat.reduceBEq,Int.reduceToNat,Int.reduceLT,Int.reduceLE,Int.reduceEq,Int.reduceNeg,Try.results9,xtA.2,xtA.ltT,xtA.leT])
  refine AOpsL.call (first := []) (cap := []) hT rfl rfl rfl fn18 rfl (ACalls.mono (pfind_ok _ l3 1 2 (by decide)) ?_)
  rw [fnd3]
  rintro y σ6 ⟨rfl, xtB⟩
  have xtC := xtA.trans xtB
  clear xtA xtB
  repeat (first | (with_reducible refine AW.seq ?_) | (with_reducible refine AW.block ?_) | (with_reducible refine AW.skip ?_) | (with_reducible refine AW.ret ?_) | (with_reducible refine AW.exit ?_) | (with_reducible refine AW.reg hT ?_) | ((with_reducible refine AW.cond_true ?_ ?_); · rfl) | ((with_reducible refine AW.cond_false ?_ ?_); · rfl) | simp (maxSteps := 3000000) (maxDischargeDepth := 12) only [push_cast,appendX,reduceIte,reduceCtorEq,Nat.reduceSub,Nat.reduceAdd,Nat.reduceMul,Nat.reduceLT,Nat.reduceLeDiff,Nat.reduceEqDiff,Nat.reduceBEq,Int.reduceToNat,Int.reduceLT,Int.reduceLE,Int.reduceEq,Int.reduceNeg,Try.results9,xtC.2,xtC.ltT,xtC.leT])
  refine AOpsL.call (first := []) (cap := []) hT rfl rfl rfl fn16 rfl (ACalls.mono (outs_ok _ l3 1 (by rw [show l3.length = 3 from rfl, out3]; decide) (by decide)) ?_)
  rintro y σ7 ⟨S, ⟨hS1, hS2⟩, rfl, xtD⟩
  rw [srt3 hS1 hS2]
  have xtE := xtC.trans xtD
  clear xtC xtD
  have hz : ([2, 1] : List Nat).map eI = ([2, 1] : List Int).map eZ := rfl
  rw [hz]
  repeat (first | (with_reducible refine AW.seq ?_) | (with_reducible refine AW.block ?_) | (with_reducible refine AW.skip ?_) | (with_reducible refine AW.ret ?_) | (with_reducible refine AW.exit ?_) | (with_reducible refine AW.reg hT ?_) | ((with_reducible refine AW.cond_true ?_ ?_); · rfl) | ((with_reducible refine AW.cond_false ?_ ?_); · rfl) | simp (maxSteps := 3000000) (maxDischargeDepth := 12) only [push_cast,appendX,reduceIte,reduceCtorEq,Nat.reduceSub,Nat.reduceAdd,Nat.reduceMul,Nat.reduceLT,Nat.reduceLeDiff,Nat.reduceEqDiff,Nat.reduceBEq,Int.reduceToNat,Int.reduceLT,Int.reduceLE,Int.reduceEq,Int.reduceNeg,Try.results9,xtE.2,xtE.ltT,xtE.leT])
  refine AOpsL.call (first := []) (cap := []) hT rfl rfl rfl fn20 rfl (ACalls.mono (ints_hold _ [2, 1] (by decide) (Hold.row (els := ([2, 1] : List Int).map eZ) (t := σ7.n) (by simp (maxSteps := 3000000) (maxDischargeDepth := 12) only [push_cast, appendX, Nat.reduceAdd, Nat.reduceEqDiff, Nat.reduceLT, Nat.reduceLeDiff, reduceIte, reduceCtorEq, eZ, List.map_cons, List.map_nil, xtE.2, xtE.ltT, xtE.leT]))) ?_)
  rintro y σ8 ⟨rfl, xtF⟩
  have xtG : Ext [] σ σ8 := (xtE.push _).then xtF (by intro p hp hl; simp [tOf] at hp; have := xtE.1; omega)
  clear xtE xtF
  repeat (first | (with_reducible refine AW.seq ?_) | (with_reducible refine AW.block ?_) | (with_reducible refine AW.skip ?_) | (with_reducible refine AW.ret ?_) | (with_reducible refine AW.exit ?_) | (with_reducible refine AW.reg hT ?_) | ((with_reducible refine AW.cond_true ?_ ?_); · rfl) | ((with_reducible refine AW.cond_false ?_ ?_); · rfl) | simp (maxSteps := 3000000) (maxDischargeDepth := 12) only [push_cast,appendX,reduceIte,reduceCtorEq,Nat.reduceSub,Nat.reduceAdd,Nat.reduceMul,Nat.reduceLT,Nat.reduceLeDiff,Nat.reduceEqDiff,Nat.reduceBEq,Int.reduceToNat,Int.reduceLT,Int.reduceLE,Int.reduceEq,Int.reduceNeg,Try.results9,xtG.2,xtG.ltT,xtG.leT])
  refine AOpsL.call (first := []) (cap := []) hT rfl rfl rfl fn13 rfl (ACalls.mono (reach_ok _ 3 l3 2 w3) ?_)
  rintro y σ9 ⟨out, ho, rfl, xtH⟩
  have dcol : (out.map eB).length = 3 := by
    have := (ho.2 ⟨chk33, by decide, by decide⟩).1
    simp; omega
  repeat (first | (with_reducible refine AW.seq ?_) | (with_reducible refine AW.block ?_) | (with_reducible refine AW.skip ?_) | (with_reducible refine AW.ret ?_) | (with_reducible refine AW.exit ?_) | (with_reducible refine AW.reg hT ?_) | ((with_reducible refine AW.cond_true ?_ ?_); · rfl) | ((with_reducible refine AW.cond_false ?_ ?_); · rfl) | simp (maxSteps := 3000000) (maxDischargeDepth := 12) only [push_cast,appendX,reduceIte,reduceCtorEq,Nat.reduceSub,Nat.reduceAdd,Nat.reduceMul,Nat.reduceLT,Nat.reduceLeDiff,Nat.reduceEqDiff,Nat.reduceBEq,Int.reduceToNat,Int.reduceLT,Int.reduceLE,Int.reduceEq,Int.reduceNeg,Try.results9,xtG.2,xtG.ltT,xtG.leT,xtH.2,xtH.ltT,xtH.leT,dcol])
  exact ⟨rfl, xtG.trans xtH⟩
end Go.Proofs.Ytpigelcckiejiaa.Cm
