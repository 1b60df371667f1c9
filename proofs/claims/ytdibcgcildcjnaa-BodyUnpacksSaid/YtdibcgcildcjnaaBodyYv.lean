/- The document's package body: what an object would say. -/
import Derived.Test.YtdibcgcildcjnaaBodyYu
namespace Go.Proofs.Ytdibcgcildcjnaa.Cm
open Go.RowKit
set_option linter.unusedVariables false
set_option linter.unusedSimpArgs false
set_option maxRecDepth 20000
set_option maxHeartbeats 8000000
section
variable {c : Int} {b : List Int}
theorem rguess_no (σ : Heap) (k : Int) (ho : Octs b) (hb : b.length ≤ 1000000) (hcc : c ≠ 1 ∧ c ≠ 3 ∧ c ≠ 5 ∧ c ≠ 6 ∧ c ≠ 8 ∧ c ≠ 9 ∧ c ≠ 12 ∧ c ≠ 10 ∧ c ≠ 11 ∧ c ≠ 16 ∧ c ≠ 19 ∧ c ≠ 20 ∧ c ≠ 21 ∧ c ≠ 23 ∧ c ≠ 207) : ACalls Try.prog 27 [.agg (oC c k b)] σ (fun y σ' => y = .agg (itC (zF c) (.imm ((([] : List Int)).map eI))) ∧ Ext [] σ σ') := by
  refine ACalls.tells ?_
  obtain ⟨hc1, hc3, hc5, hc6, hc8, hc9, hc12, hc10, hc11, hc16, hc19, hc20, hc21, hc23, hc207⟩ := hcc
  have dcq1 : (c == 1) = false := by simpa using hc1
  have dcq3 : (c == 3) = false := by simpa using hc3
  have dcq5 : (c == 5) = false := by simpa using hc5
  have dcq6 : (c == 6) = false := by simpa using hc6
  have dcq8 : (c == 8) = false := by simpa using hc8
  have dcq9 : (c == 9) = false := by simpa using hc9
  have dcq12 : (c == 12) = false := by simpa using hc12
  have dcq10 : (c == 10) = false := by simpa using hc10
  have dcq11 : (c == 11) = false := by simpa using hc11
  have dcq16 : (c == 16) = false := by simpa using hc16
  have dcq19 : (c == 19) = false := by simpa using hc19
  have dcq20 : (c == 20) = false := by simpa using hc20
  have dcq21 : (c == 21) = false := by simpa using hc21
  have dcq23 : (c == 23) = false := by simpa using hc23
  have dcq207 : (c == 207) = false := by simpa using hc207
  refine ACalls.code hT Try.func27 rfl ?_
  simp only [Try.ntmps27, List.length_cons, List.length_nil, Nat.reduceSub, Nat.reduceAdd, List.replicate, List.cons_append, List.nil_append]
  repeat (first | (with_reducible first | refine AW.seq ?_ | refine AW.block ?_ | refine AW.skip ?_ | refine AW.ret ?_ | refine AW.exit ?_ | refine AW.reg hT ?_) | ((with_reducible refine AW.cond_true ?_ ?_); · rfl) | ((with_reducible refine AW.cond_false ?_ ?_); · rfl) | simp (maxSteps := 3000000) (maxDischargeDepth := 12) only [seval,push_cast,appendX,Try.results27,oC,dcq1,dcq3,dcq5,dcq6,dcq8,dcq9,dcq12,dcq10,dcq11,dcq16,dcq19,dcq20,dcq21,dcq23,dcq207])
  exact ⟨_, item_nil (zF c), rfl, by repeat (first | exact Ext.refl _ _ | assumption | refine Ext.push ?_ _ | ((refine Ext.set ?_ ?_ _); rotate_left; · (simp (maxSteps := 3000000) (maxDischargeDepth := 12) only [push_cast, appendX, Nat.reduceAdd, Nat.reduceEqDiff, Nat.reduceLT, Nat.reduceLeDiff, reduceIte, reduceCtorEq, dcq1, dcq3, dcq5, dcq6, dcq8, dcq9, dcq12, dcq10, dcq11, dcq16, dcq19, dcq20, dcq21, dcq23, dcq207])) | ((refine Ext.then1 (by assumption) ?_ ?_); rotate_left; · (intro p hp _; first | assumption | exact List.mem_cons_of_mem _ hp | (cases hp; done) | (simp at hp; subst hp; simp))))⟩
theorem rguess_10 (σ : Heap) (k : Int) (ho : Octs b) (hb : b.length ≤ 1000000)  : ACalls Try.prog 27 [.agg (oC 10 k b)] σ (fun y σ' => y = .agg (itC ({ zF 10 with a := nodeA b 0, b := readA b 6 2 }) (.imm ((([] : List Int)).map eI))) ∧ Ext [] σ σ') := by
  refine ACalls.tells ?_
  have h6_2 := readA_bound ho 6 2
  have eh6_2 : (256 : Int) ^ 2 = 65536 := by decide
  rw [eh6_2] at h6_2
  have dcwb : IntKind.i64.wrap (readA b 6 2) = readA b 6 2 := wrap_i64 (by omega) (by omega)
  refine ACalls.code hT Try.func27 rfl ?_
  simp only [Try.ntmps27, List.length_cons, List.length_nil, Nat.reduceSub, Nat.reduceAdd, List.replicate, List.cons_append, List.nil_append]
  repeat (first | (with_reducible first | refine AW.seq ?_ | refine AW.block ?_ | refine AW.skip ?_ | refine AW.ret ?_ | refine AW.exit ?_ | refine AW.reg hT ?_) | ((with_reducible refine AW.cond_true ?_ ?_); · rfl) | ((with_reducible refine AW.cond_false ?_ ?_); · rfl) | simp (maxSteps := 3000000) (maxDischargeDepth := 12) only [seval,push_cast,appendX,Try.results27,oC,dcwb])
  refine AOpsL.call (first := []) (cap := []) hT rfl rfl rfl fn42 rfl (ACalls.mono (node_okR _ ho hb 0 (by omega)) ?_)
  rintro y σ' ⟨rfl, rfl⟩
  repeat (first | (with_reducible first | refine AW.seq ?_ | refine AW.block ?_ | refine AW.skip ?_ | refine AW.ret ?_ | refine AW.exit ?_ | refine AW.reg hT ?_) | ((with_reducible refine AW.cond_true ?_ ?_); · rfl) | ((with_reducible refine AW.cond_false ?_ ?_); · rfl) | simp (maxSteps := 3000000) (maxDischargeDepth := 12) only [seval,push_cast,appendX,Try.results27,oC,dcwb])
  refine AOpsL.call (first := []) (cap := []) hT rfl rfl rfl fn43 rfl (ACalls.mono (read_ok _ ho hb 6 2 (by omega) (by omega)) ?_)
  rintro y σ' ⟨rfl, rfl⟩
  repeat (first | (with_reducible first | refine AW.seq ?_ | refine AW.block ?_ | refine AW.skip ?_ | refine AW.ret ?_ | refine AW.exit ?_ | refine AW.reg hT ?_) | ((with_reducible refine AW.cond_true ?_ ?_); · rfl) | ((with_reducible refine AW.cond_false ?_ ?_); · rfl) | simp (maxSteps := 3000000) (maxDischargeDepth := 12) only [seval,push_cast,appendX,Try.results27,oC,dcwb])
  exact ⟨_, item_nil ({ zF 10 with a := nodeA b 0, b := readA b 6 2 }), rfl, by repeat (first | exact Ext.refl _ _ | assumption | refine Ext.push ?_ _ | ((refine Ext.set ?_ ?_ _); rotate_left; · (simp (maxSteps := 3000000) (maxDischargeDepth := 12) only [push_cast, appendX, Nat.reduceAdd, Nat.reduceEqDiff, Nat.reduceLT, Nat.reduceLeDiff, reduceIte, reduceCtorEq, dcwb])) | ((refine Ext.then1 (by assumption) ?_ ?_); rotate_left; · (intro p hp _; first | assumption | exact List.mem_cons_of_mem _ hp | (cases hp; done) | (simp at hp; subst hp; simp))))⟩
theorem rguess_3 (σ : Heap) (k : Int) (ho : Octs b) (hb : b.length ≤ 1000000)  : ACalls Try.prog 27 [.agg (oC 3 k b)] σ (fun y σ' => y = .agg (itC ({ zF 3 with a := nodeA b 0 }) (.imm ((([] : List Int)).map eI))) ∧ Ext [] σ σ') := by
  refine ACalls.tells ?_
  refine ACalls.code hT Try.func27 rfl ?_
  simp only [Try.ntmps27, List.length_cons, List.length_nil, Nat.reduceSub, Nat.reduceAdd, List.replicate, List.cons_append, List.nil_append]
  repeat (first | (with_reducible first | refine AW.seq ?_ | refine AW.block ?_ | refine AW.skip ?_ | refine AW.ret ?_ | refine AW.exit ?_ | refine AW.reg hT ?_) | ((with_reducible refine AW.cond_true ?_ ?_); · rfl) | ((with_reducible refine AW.cond_false ?_ ?_); · rfl) | simp (maxSteps := 3000000) (maxDischargeDepth := 12) only [seval,push_cast,appendX,Try.results27,oC])
  refine AOpsL.call (first := []) (cap := []) hT rfl rfl rfl fn42 rfl (ACalls.mono (node_okR _ ho hb 0 (by omega)) ?_)
  rintro y σ' ⟨rfl, rfl⟩
  repeat (first | (with_reducible first | refine AW.seq ?_ | refine AW.block ?_ | refine AW.skip ?_ | refine AW.ret ?_ | refine AW.exit ?_ | refine AW.reg hT ?_) | ((with_reducible refine AW.cond_true ?_ ?_); · rfl) | ((with_reducible refine AW.cond_false ?_ ?_); · rfl) | simp (maxSteps := 3000000) (maxDischargeDepth := 12) only [seval,push_cast,appendX,Try.results27,oC])
  exact ⟨_, item_nil ({ zF 3 with a := nodeA b 0 }), rfl, by repeat (first | exact Ext.refl _ _ | assumption | refine Ext.push ?_ _ | ((refine Ext.set ?_ ?_ _); rotate_left; · (simp (maxSteps := 3000000) (maxDischargeDepth := 12) only [push_cast, appendX, Nat.reduceAdd, Nat.reduceEqDiff, Nat.reduceLT, Nat.reduceLeDiff, reduceIte, reduceCtorEq])) | ((refine Ext.then1 (by assumption) ?_ ?_); rotate_left; · (intro p hp _; first | assumption | exact List.mem_cons_of_mem _ hp | (cases hp; done) | (simp at hp; subst hp; simp))))⟩
theorem rguess_12 (σ : Heap) (k : Int) (ho : Octs b) (hb : b.length ≤ 1000000)  : ACalls Try.prog 27 [.agg (oC 12 k b)] σ (fun y σ' => y = .agg (itC ({ zF 12 with u := readA b 0 8 }) (.imm ((([] : List Int)).map eI))) ∧ Ext [] σ σ') := by
  refine ACalls.tells ?_
  refine ACalls.code hT Try.func27 rfl ?_
  simp only [Try.ntmps27, List.length_cons, List.length_nil, Nat.reduceSub, Nat.reduceAdd, List.replicate, List.cons_append, List.nil_append]
  repeat (first | (with_reducible first | refine AW.seq ?_ | refine AW.block ?_ | refine AW.skip ?_ | refine AW.ret ?_ | refine AW.exit ?_ | refine AW.reg hT ?_) | ((with_reducible refine AW.cond_true ?_ ?_); · rfl) | ((with_reducible refine AW.cond_false ?_ ?_); · rfl) | simp (maxSteps := 3000000) (maxDischargeDepth := 12) only [seval,push_cast,appendX,Try.results27,oC])
  refine AOpsL.call (first := []) (cap := []) hT rfl rfl rfl fn43 rfl (ACalls.mono (read_ok _ ho hb 0 8 (by omega) (by omega)) ?_)
  rintro y σ' ⟨rfl, rfl⟩
  repeat (first | (with_reducible first | refine AW.seq ?_ | refine AW.block ?_ | refine AW.skip ?_ | refine AW.ret ?_ | refine AW.exit ?_ | refine AW.reg hT ?_) | ((with_reducible refine AW.cond_true ?_ ?_); · rfl) | ((with_reducible refine AW.cond_false ?_ ?_); · rfl) | simp (maxSteps := 3000000) (maxDischargeDepth := 12) only [seval,push_cast,appendX,Try.results27,oC])
  exact ⟨_, item_nil ({ zF 12 with u := readA b 0 8 }), rfl, by repeat (first | exact Ext.refl _ _ | assumption | refine Ext.push ?_ _ | ((refine Ext.set ?_ ?_ _); rotate_left; · (simp (maxSteps := 3000000) (maxDischargeDepth := 12) only [push_cast, appendX, Nat.reduceAdd, Nat.reduceEqDiff, Nat.reduceLT, Nat.reduceLeDiff, reduceIte, reduceCtorEq])) | ((refine Ext.then1 (by assumption) ?_ ?_); rotate_left; · (intro p hp _; first | assumption | exact List.mem_cons_of_mem _ hp | (cases hp; done) | (simp at hp; subst hp; simp))))⟩
theorem rguess_20 (σ : Heap) (k : Int) (ho : Octs b) (hb : b.length ≤ 1000000)  : ACalls Try.prog 27 [.agg (oC 20 k b)] σ (fun y σ' => y = .agg (itC (zF 20) (.imm ((listA b).map eI))) ∧ Ext [] σ σ') := by
  refine ACalls.code hT Try.func27 rfl ?_
  simp only [Try.ntmps27, List.length_cons, List.length_nil, Nat.reduceSub, Nat.reduceAdd, List.replicate, List.cons_append, List.nil_append]
  repeat (first | (with_reducible first | refine AW.seq ?_ | refine AW.block ?_ | refine AW.skip ?_ | refine AW.ret ?_ | refine AW.exit ?_ | refine AW.reg hT ?_) | ((with_reducible refine AW.cond_true ?_ ?_); · rfl) | ((with_reducible refine AW.cond_false ?_ ?_); · rfl) | simp (maxSteps := 3000000) (maxDischargeDepth := 12) only [seval,push_cast,appendX,Try.results27,oC])
  refine AOpsL.call (first := []) (cap := []) hT rfl rfl rfl fn44 rfl (ACalls.mono (rlist_ok _ ho hb) ?_)
  rintro y σ2 ⟨rfl, xt2⟩
  repeat (first | (with_reducible first | refine AW.seq ?_ | refine AW.block ?_ | refine AW.skip ?_ | refine AW.ret ?_ | refine AW.exit ?_ | refine AW.reg hT ?_) | ((with_reducible refine AW.cond_true ?_ ?_); · rfl) | ((with_reducible refine AW.cond_false ?_ ?_); · rfl) | simp (maxSteps := 3000000) (maxDischargeDepth := 12) only [seval,push_cast,appendX,Try.results27,oC,xt2.2,xt2.ltT,xt2.leT])
  exact ⟨rfl, by repeat (first | exact Ext.refl _ _ | assumption | refine Ext.push ?_ _ | ((refine Ext.set ?_ ?_ _); rotate_left; · (simp (maxSteps := 3000000) (maxDischargeDepth := 12) only [push_cast, appendX, Nat.reduceAdd, Nat.reduceEqDiff, Nat.reduceLT, Nat.reduceLeDiff, reduceIte, reduceCtorEq, xt2.2, xt2.ltT, xt2.leT])) | ((refine Ext.then1 (by assumption) ?_ ?_); rotate_left; · (intro p hp _; first | assumption | exact List.mem_cons_of_mem _ hp | (cases hp; done) | (simp at hp; subst hp; simp))))⟩
theorem rguess_8 (σ : Heap) (k : Int) (ho : Octs b) (hb : b.length ≤ 1000000)  : ACalls Try.prog 27 [.agg (oC 8 k b)] σ (fun y σ' => y = .agg (itC (zF 8) (.imm ((([] : List Int)).map eI))) ∧ Ext [] σ σ') := by
  refine ACalls.tells ?_
  refine ACalls.code hT Try.func27 rfl ?_
  simp only [Try.ntmps27, List.length_cons, List.length_nil, Nat.reduceSub, Nat.reduceAdd, List.replicate, List.cons_append, List.nil_append]
  repeat (first | (with_reducible first | refine AW.seq ?_ | refine AW.block ?_ | refine AW.skip ?_ | refine AW.ret ?_ | refine AW.exit ?_ | refine AW.reg hT ?_) | ((with_reducible refine AW.cond_true ?_ ?_); · rfl) | ((with_reducible refine AW.cond_false ?_ ?_); · rfl) | simp (maxSteps := 3000000) (maxDischargeDepth := 12) only [seval,push_cast,appendX,Try.results27,oC])
  exact ⟨_, item_nil (zF 8), rfl, by repeat (first | exact Ext.refl _ _ | assumption | refine Ext.push ?_ _ | ((refine Ext.set ?_ ?_ _); rotate_left; · (simp (maxSteps := 3000000) (maxDischargeDepth := 12) only [push_cast, appendX, Nat.reduceAdd, Nat.reduceEqDiff, Nat.reduceLT, Nat.reduceLeDiff, reduceIte, reduceCtorEq])) | ((refine Ext.then1 (by assumption) ?_ ?_); rotate_left; · (intro p hp _; first | assumption | exact List.mem_cons_of_mem _ hp | (cases hp; done) | (simp at hp; subst hp; simp))))⟩
end
end Go.Proofs.Ytdibcgcildcjnaa.Cm
