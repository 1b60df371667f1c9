/- The law's alive. -/
import Derived.Test.YtkcccomdamdocaaTedb7
import Derived.Test.YtkcccomdamdocaaTedb8
namespace Go.Proofs.Ytkcccomdamdocaa.Cm
open Go.RowKit
set_option linter.unusedVariables false
set_option linter.unusedSimpArgs false
set_option maxRecDepth 20000
set_option maxHeartbeats 8000000
def lk0 : Lk := ⟨0, 1, 9, 1, 0⟩
def ad1 : Ad := ⟨lk0, 2, false, ⟨0, 0, 0, 0, 0, 0, 0, 0⟩⟩
def ad2 : Ad := ⟨lk0, 2, true, ⟨0, 0, 0, 0, 0, 0, 0, 0⟩⟩
theorem wlk0 : wK lk0 := ⟨rfl, rfl, rfl, rfl, rfl⟩
theorem wad1 : wA ad1 := ⟨wlk0, rfl, trivial, rfl, rfl, rfl, rfl, rfl, rfl, rfl, rfl⟩
theorem wad2 : wA ad2 := ⟨wlk0, rfl, trivial, rfl, rfl, rfl, rfl, rfl, rfl, rfl, rfl⟩
theorem app1 : appA [adv0 lk0] ad1 = ([ad1], true, 0) := by kernel_rfl
theorem app2 : appA [ad1] ad2 = ([ad1], false, 0) := by kernel_rfl
theorem enc2 : (encT [ad1]).2 = 0 := by kernel_rfl
theorem enc1 : (bytesD (encT [ad1]).1).length = 88 := by kernel_rfl
theorem Ext.ap {X : List Nat} {a b c : Heap} (h : Ext [] a b) (k : Ext X b c) (hy : ∀ p ∈ X, a.n ≤ p) : Ext [] a c := h.then k (fun p hp hl => absurd (hy p hp) (by omega))
theorem alive_ok (σ : Heap) : ACalls Try.prog 10 [] σ (fun x σ' => x = .sc (.bool true) ∧ Ext [] σ σ') := by
  refine ACalls.code hT Try.func10 rfl ?_
  simp only [Try.ntmps10, List.length_cons, List.length_nil, Nat.reduceSub, Nat.reduceAdd, List.replicate, List.cons_append, List.nil_append]
  have dck0 : eK lk0 = [.sc (.int .i64 0), .sc (.int .i64 1), .sc (.int .u64 9), .sc (.int .i64 1), .sc (.int .u32 0)] := rfl
  have dcu8 : ((1 : Int) + 1 + 1 + 1 + 1 + 1 + 1 + 1) = 8 := by decide
  repeat ((fail_if_success (with_reducible refine AW.at1 (id := 2) ?_)); (fail_if_success (with_reducible refine AW.at2 (id := 2) ?_)); first | (with_reducible refine AW.seq ?_) | (with_reducible refine AW.block ?_) | (with_reducible refine AW.skip ?_) | (with_reducible refine AW.ret ?_) | (with_reducible refine AW.exit ?_) | (with_reducible refine AW.reg hT ?_) | ((with_reducible refine AW.cond_true ?_ ?_); · rfl) | ((with_reducible refine AW.cond_false ?_ ?_); · rfl) | simp (maxSteps := 3000000) (maxDischargeDepth := 12) only [push_cast,appendX,reduceIte,reduceCtorEq,Nat.reduceSub,Nat.reduceAdd,Nat.reduceMul,Nat.reduceLT,Nat.reduceLeDiff,Nat.reduceEqDiff,Nat.reduceBEq,Int.reduceToNat,Int.reduceLT,Int.reduceLE,Int.reduceEq,Int.reduceNeg,Try.results10,dck0,dcu8])
  refine AW.holdSlot (j := 1) (els := [lk0].map eK) (e := 37) (Hold.row (els := [lk0].map eK) (t := σ.n) (by simp (maxSteps := 3000000) (maxDischargeDepth := 12) only [push_cast, appendX, Nat.reduceAdd, Nat.reduceEqDiff, Nat.reduceLT, Nat.reduceLeDiff, reduceIte, reduceCtorEq, List.map_cons, List.map_nil, dck0, dcu8])) rfl (fun σ1 xt1 => ?_)
  simp only [tOf] at xt1
  have xt2 : Ext [] σ σ1 := Ext.then1 xt1 (by repeat (first | exact Ext.refl _ _ | assumption | refine Ext.push ?_ _ | ((refine Ext.set ?_ ?_ _); rotate_left; · (simp (maxSteps := 3000000) (maxDischargeDepth := 12) only [push_cast, appendX, Nat.reduceAdd, Nat.reduceEqDiff, Nat.reduceLT, Nat.reduceLeDiff, reduceIte, reduceCtorEq, dck0, dcu8])) | ((refine Ext.then1 (by assumption) ?_ ?_); rotate_left; · (intro p hp _; first | assumption | exact List.mem_cons_of_mem _ hp | (cases hp; done) | (simp at hp; subst hp; simp))))) (by intro p hp; simp at hp; omega)
  clear xt1
  simp only [List.set_cons_succ, List.set_cons_zero]
  repeat (first | (with_reducible refine AW.seq ?_) | (with_reducible refine AW.block ?_) | (with_reducible refine AW.skip ?_) | (with_reducible refine AW.ret ?_) | (with_reducible refine AW.exit ?_) | (with_reducible refine AW.reg hT ?_) | ((with_reducible refine AW.cond_true ?_ ?_); · rfl) | ((with_reducible refine AW.cond_false ?_ ?_); · rfl) | simp (maxSteps := 3000000) (maxDischargeDepth := 12) only [push_cast,appendX,reduceIte,reduceCtorEq,Nat.reduceSub,Nat.reduceAdd,Nat.reduceMul,Nat.reduceLT,Nat.reduceLeDiff,Nat.reduceEqDiff,Nat.reduceBEq,Int.reduceToNat,Int.reduceLT,Int.reduceLE,Int.reduceEq,Int.reduceNeg,Try.results10,dck0,dcu8,xt2.2,xt2.ltT,xt2.leT])
  refine AOpsL.call (first := []) (cap := []) hT rfl rfl rfl fn11 rfl (ACalls.mono (pnew_ok _ 2 [lk0] (by simpa using wlk0) (by decide)) ?_)
  rintro y σ2 (⟨h, _⟩ | ⟨_, p, d, rfl, hb, hpn, hnew, xt3⟩)
  · exact absurd (show chk 2 [lk0] = 0 by kernel_rfl) h
  have hle := xt2.1
  have hnew2 : ∀ q ∈ tOf d, σ.n ≤ q := fun q hq => Nat.le_trans hle (hnew q hq)
  have xt4 : Ext [] σ σ2 := xt2.trans xt3
  clear xt2 xt3 hnew
  repeat (first | (with_reducible refine AW.seq ?_) | (with_reducible refine AW.block ?_) | (with_reducible refine AW.skip ?_) | (with_reducible refine AW.ret ?_) | (with_reducible refine AW.exit ?_) | (with_reducible refine AW.reg hT ?_) | ((with_reducible refine AW.cond_true ?_ ?_); · rfl) | ((with_reducible refine AW.cond_false ?_ ?_); · rfl) | simp (maxSteps := 3000000) (maxDischargeDepth := 12) only [push_cast,appendX,reduceIte,reduceCtorEq,Nat.reduceSub,Nat.reduceAdd,Nat.reduceMul,Nat.reduceLT,Nat.reduceLeDiff,Nat.reduceEqDiff,Nat.reduceBEq,Int.reduceToNat,Int.reduceLT,Int.reduceLE,Int.reduceEq,Int.reduceNeg,Try.results10,dck0,dcu8,xt4.2,xt4.ltT,xt4.leT])
  refine AOpsL.call (first := []) (cap := []) hT rfl rfl rfl fn19 rfl (ACalls.mono (allI_ok _ hb (by decide)) ?_)
  rintro y σ3 ⟨rfl, xt5⟩
  have dce0 : eA (adv0 lk0) = [.sc (.int .i64 0), .sc (.int .i64 1), .sc (.int .u64 9), .sc (.int .i64 1), .sc (.int .u32 0), .sc (.int .i64 0), .sc (.bool true), .sc (.int .u64 9), .sc (.int .u64 9), .sc (.int .u64 9), .sc (.int .u64 9), .sc (.int .u64 9), .sc (.int .u64 9), .sc (.int .u64 9), .sc (.int .u64 9)] := rfl
  have hb3 := hb.frame xt5 (by simp) (by simp)
  have xt6 := xt4.trans xt5
  clear xt4 xt5 hb
  repeat (first | (with_reducible refine AW.seq ?_) | (with_reducible refine AW.block ?_) | (with_reducible refine AW.skip ?_) | (with_reducible refine AW.ret ?_) | (with_reducible refine AW.exit ?_) | (with_reducible refine AW.reg hT ?_) | ((with_reducible refine AW.cond_true ?_ ?_); · rfl) | ((with_reducible refine AW.cond_false ?_ ?_); · rfl) | simp (maxSteps := 3000000) (maxDischargeDepth := 12) only [push_cast,appendX,reduceIte,reduceCtorEq,Nat.reduceSub,Nat.reduceAdd,Nat.reduceMul,Nat.reduceLT,Nat.reduceLeDiff,Nat.reduceEqDiff,Nat.reduceBEq,Int.reduceToNat,Int.reduceLT,Int.reduceLE,Int.reduceEq,Int.reduceNeg,Try.results10,dck0,dcu8,dce0,xt6.2,xt6.ltT,xt6.leT])
  refine AOpsL.call (first := []) (cap := []) hT rfl rfl rfl fn19 rfl (ACalls.mono (allI_ok _ hb3 (by decide)) ?_)
  rintro y σ4 ⟨rfl, xt7⟩
  have hb4 := hb3.frame xt7 (by simp) (by simp)
  have xt8 := xt6.trans xt7
  clear xt6 xt7 hb3
  repeat (first | (with_reducible refine AW.seq ?_) | (with_reducible refine AW.block ?_) | (with_reducible refine AW.skip ?_) | (with_reducible refine AW.ret ?_) | (with_reducible refine AW.exit ?_) | (with_reducible refine AW.reg hT ?_) | ((with_reducible refine AW.cond_true ?_ ?_); · rfl) | ((with_reducible refine AW.cond_false ?_ ?_); · rfl) | simp (maxSteps := 3000000) (maxDischargeDepth := 12) only [push_cast,appendX,reduceIte,reduceCtorEq,Nat.reduceSub,Nat.reduceAdd,Nat.reduceMul,Nat.reduceLT,Nat.reduceLeDiff,Nat.reduceEqDiff,Nat.reduceBEq,Int.reduceToNat,Int.reduceLT,Int.reduceLE,Int.reduceEq,Int.reduceNeg,Try.results10,dck0,dcu8,dce0,xt8.2,xt8.ltT,xt8.leT])
  refine AOpsL.call (first := []) (cap := []) hT rfl rfl rfl fn14 rfl (ACalls.mono (papply_ok (l := [adv0 lk0]) _ ad1 hb4 wad1 (by decide)) ?_)
  rintro y σ5 ⟨rfl, hb5, xt9⟩
  have xtA : Ext [] σ σ5 := Ext.ap xt8 xt9 hnew2
  clear xt8 xt9 hb4
  rw [app1] at hb5
  change Bs _ _ _ [ad1] at hb5
  rw [app1]
  repeat (first | (with_reducible refine AW.seq ?_) | (with_reducible refine AW.block ?_) | (with_reducible refine AW.skip ?_) | (with_reducible refine AW.ret ?_) | (with_reducible refine AW.exit ?_) | (with_reducible refine AW.reg hT ?_) | ((with_reducible refine AW.cond_true ?_ ?_); · rfl) | ((with_reducible refine AW.cond_false ?_ ?_); · rfl) | simp (maxSteps := 3000000) (maxDischargeDepth := 12) only [push_cast,appendX,reduceIte,reduceCtorEq,Nat.reduceSub,Nat.reduceAdd,Nat.reduceMul,Nat.reduceLT,Nat.reduceLeDiff,Nat.reduceEqDiff,Nat.reduceBEq,Int.reduceToNat,Int.reduceLT,Int.reduceLE,Int.reduceEq,Int.reduceNeg,Try.results10,dck0,dcu8,dce0,xtA.2,xtA.ltT,xtA.leT])
  refine AOpsL.call (first := []) (cap := []) hT rfl rfl rfl fn14 rfl (ACalls.mono (papply_ok (l := [ad1]) _ ad2 hb5 wad2 (by decide)) ?_)
  rintro y σ6 ⟨rfl, hb6, xtB⟩
  have xtC : Ext [] σ σ6 := Ext.ap xtA xtB hnew2
  clear xtA xtB hb5
  rw [app2] at hb6
  change Bs _ _ _ [ad1] at hb6
  rw [app2]
  repeat (first | (with_reducible refine AW.seq ?_) | (with_reducible refine AW.block ?_) | (with_reducible refine AW.skip ?_) | (with_reducible refine AW.ret ?_) | (with_reducible refine AW.exit ?_) | (with_reducible refine AW.reg hT ?_) | ((with_reducible refine AW.cond_true ?_ ?_); · rfl) | ((with_reducible refine AW.cond_false ?_ ?_); · rfl) | simp (maxSteps := 3000000) (maxDischargeDepth := 12) only [push_cast,appendX,reduceIte,reduceCtorEq,Nat.reduceSub,Nat.reduceAdd,Nat.reduceMul,Nat.reduceLT,Nat.reduceLeDiff,Nat.reduceEqDiff,Nat.reduceBEq,Int.reduceToNat,Int.reduceLT,Int.reduceLE,Int.reduceEq,Int.reduceNeg,Try.results10,dck0,dcu8,dce0,xtC.2,xtC.ltT,xtC.leT])
  refine AOpsL.call (first := []) (cap := []) hT rfl rfl rfl fn19 rfl (ACalls.mono (allI_ok _ hb6 (by decide)) ?_)
  rintro y σ7 ⟨rfl, xtD⟩
  have hb7 := hb6.frame xtD (by simp) (by simp)
  have xtE := xtC.trans xtD
  clear xtC xtD hb6
  repeat (first | (with_reducible refine AW.seq ?_) | (with_reducible refine AW.block ?_) | (with_reducible refine AW.skip ?_) | (with_reducible refine AW.ret ?_) | (with_reducible refine AW.exit ?_) | (with_reducible refine AW.reg hT ?_) | ((with_reducible refine AW.cond_true ?_ ?_); · rfl) | ((with_reducible refine AW.cond_false ?_ ?_); · rfl) | simp (maxSteps := 3000000) (maxDischargeDepth := 12) only [push_cast,appendX,reduceIte,reduceCtorEq,Nat.reduceSub,Nat.reduceAdd,Nat.reduceMul,Nat.reduceLT,Nat.reduceLeDiff,Nat.reduceEqDiff,Nat.reduceBEq,Int.reduceToNat,Int.reduceLT,Int.reduceLE,Int.reduceEq,Int.reduceNeg,Try.results10,dck0,dcu8,dce0,xtE.2,xtE.ltT,xtE.leT])
  refine AOpsL.call (first := []) (cap := []) hT rfl rfl rfl fn24 rfl (ACalls.mono (tencode_ok _ [ad1] (by simpa using wad1)) ?_)
  rintro y σ8 ⟨rfl, xtF⟩
  have hb8 := hb7.frame xtF (by simp) (by simp)
  have xtG := xtE.trans xtF
  obtain ⟨n88, dcn⟩ : ∃ n : Nat, (n : Int) = 88 := ⟨88, rfl⟩
  have dcen : (bytesD (encT [ad1]).1).length = n88 := by have := enc1; omega
  have dcer := enc2
  have dca1 : eA ad1 = [.sc (.int .i64 0), .sc (.int .i64 1), .sc (.int .u64 9), .sc (.int .i64 1), .sc (.int .u32 0), .sc (.int .i64 2), .sc (.bool false), .sc (.int .u64 0), .sc (.int .u64 0), .sc (.int .u64 0), .sc (.int .u64 0), .sc (.int .u64 0), .sc (.int .u64 0), .sc (.int .u64 0), .sc (.int .u64 0)] := rfl
  clear xtE xtF hb7
  repeat (first | (with_reducible refine AW.seq ?_) | (with_reducible refine AW.block ?_) | (with_reducible refine AW.skip ?_) | (with_reducible refine AW.ret ?_) | (with_reducible refine AW.exit ?_) | (with_reducible refine AW.reg hT ?_) | ((with_reducible refine AW.cond_true ?_ ?_); · rfl) | ((with_reducible refine AW.cond_false ?_ ?_); · rfl) | simp (maxSteps := 3000000) (maxDischargeDepth := 12) only [push_cast,appendX,reduceIte,reduceCtorEq,Nat.reduceSub,Nat.reduceAdd,Nat.reduceMul,Nat.reduceLT,Nat.reduceLeDiff,Nat.reduceEqDiff,Nat.reduceBEq,Int.reduceToNat,Int.reduceLT,Int.reduceLE,Int.reduceEq,Int.reduceNeg,Try.results10,dck0,dcu8,dce0,xtG.2,xtG.ltT,xtG.leT,dcn,dcen,dcer,dca1])
  refine AOpsL.call (first := []) (cap := []) hT rfl rfl rfl fn19 rfl (ACalls.mono (allI_ok _ hb8 (by decide)) ?_)
  rintro y σ9 ⟨rfl, xtH⟩
  repeat (first | (with_reducible refine AW.seq ?_) | (with_reducible refine AW.block ?_) | (with_reducible refine AW.skip ?_) | (with_reducible refine AW.ret ?_) | (with_reducible refine AW.exit ?_) | (with_reducible refine AW.reg hT ?_) | ((with_reducible refine AW.cond_true ?_ ?_); · rfl) | ((with_reducible refine AW.cond_false ?_ ?_); · rfl) | simp (maxSteps := 3000000) (maxDischargeDepth := 12) only [push_cast,appendX,reduceIte,reduceCtorEq,Nat.reduceSub,Nat.reduceAdd,Nat.reduceMul,Nat.reduceLT,Nat.reduceLeDiff,Nat.reduceEqDiff,Nat.reduceBEq,Int.reduceToNat,Int.reduceLT,Int.reduceLE,Int.reduceEq,Int.reduceNeg,Try.results10,dck0,dcu8,dce0,xtG.2,xtG.ltT,xtG.leT,dcn,dcen,dcer,dca1,xtH.2,xtH.ltT,xtH.leT])
  repeat (first | exact Ext.refl _ _ | assumption | refine Ext.push ?_ _ | ((refine Ext.set ?_ ?_ _); rotate_left; · (simp (maxSteps := 3000000) (maxDischargeDepth := 12) only [push_cast, appendX, Nat.reduceAdd, Nat.reduceEqDiff, Nat.reduceLT, Nat.reduceLeDiff, reduceIte, reduceCtorEq, dck0, dcu8, dce0, xtG.2, xtG.ltT, xtG.leT, dcn, dcen, dcer, dca1, xtH.2, xtH.ltT, xtH.leT])) | ((refine Ext.then1 (by assumption) ?_ ?_); rotate_left; · (intro p hp _; first | assumption | exact List.mem_cons_of_mem _ hp | (cases hp; done) | (simp at hp; subst hp; simp))))
end Go.Proofs.Ytkcccomdamdocaa.Cm
