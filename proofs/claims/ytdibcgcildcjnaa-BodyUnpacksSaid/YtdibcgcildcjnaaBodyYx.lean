/- The document's package body: what an object would say. -/
import Derived.Test.YtdibcgcildcjnaaBodyYu
namespace Go.Proofs.Ytdibcgcildcjnaa.Cm
open Go.RowKit
set_option linter.unusedVariables false
set_option linter.unusedSimpArgs false
set_option maxRecDepth 20000
set_option maxHeartbeats 8000000
section
variable {c : Int} {b : List Int}
theorem rguess_1 (σ : Heap) (k : Int) (ho : Octs b) (hb : b.length ≤ 1000000)  : ACalls Try.prog 27 [.agg (oC 1 k b)] σ (fun y σ' => y = .agg (itC ({ zF 1 with a := nodeA b 0, b := readA b 6 2, c := nodeA b 8 }) (.imm ((([] : List Int)).map eI))) ∧ Ext [] σ σ') := by
  refine ACalls.tells ?_
  have h6_2 := readA_bound ho 6 2
  have eh6_2 : (256 : Int) ^ 2 = 65536 := by decide
  rw [eh6_2] at h6_2
  have dcwb : IntKind.i64.wrap (readA b 6 2) = readA b 6 2 := wrap_i64 (by omega) (by omega)
  refine ACalls.code hT Try.func27 rfl ?_
  simp only [Try.ntmps27, List.length_cons, List.length_nil, Nat.reduceSub, Nat.reduceAdd, List.replicate, List.cons_append, List.nil_append]
  repeat (first | (with_reducible first | refine AW.seq ?_ | refine AW.block ?_ | refine AW.skip ?_ | refine AW.ret ?_ | refine AW.exit ?_ | refine AW.reg hT ?_) | ((with_reducible refine AW.cond_true ?_ ?_); · rfl) | ((with_reducible refine AW.cond_false ?_ ?_); · rfl) | simp (maxSteps := 3000000) (maxDischargeDepth := 12) only [seval,push_cast,appendX,Try.results27,oC,dcwb])
  refine AOpsL.call (first := []) (cap := []) hT rfl rfl rfl fn42 rfl (ACalls.mono (node_okR _ ho hb 0 (by omega)) ?_)
  rintro y σ' ⟨rfl, rfl⟩
  repeat (first | (with_reducible first | refine AW.seq ?_ | refine AW.block ?_ | refine AW.skip ?_ | refine AW.ret ?_ | refine AW.exit ?_ | refine AW.reg hT ?_) | ((with_reducible refine AW.cond_true ?_ ?_); · rfl) | ((with_reducible refine AW.cond_false ?_ ?_); · rfl) | simp (maxSteps := 3000000) (maxDischargeDepth := 12) only [seval,push_cast,appendX,Try.results27,oC,dcwb])
  refine AOpsL.call (first := []) (cap := []) hT rfl rfl rfl fn43 rfl (ACalls.mono (read_ok _ ho hb 6 2 (by omega) (by omega)) ?_)
  rintro y σ' ⟨rfl, rfl⟩
  repeat (first | (with_reducible first | refine AW.seq ?_ | refine AW.block ?_ | refine AW.skip ?_ | refine AW.ret ?_ | refine AW.exit ?_ | refine AW.reg hT ?_) | ((with_reducible refine AW.cond_true ?_ ?_); · rfl) | ((with_reducible refine AW.cond_false ?_ ?_); · rfl) | simp (maxSteps := 3000000) (maxDischargeDepth := 12) only [seval,push_cast,appendX,Try.results27,oC,dcwb])
  refine AOpsL.call (first := []) (cap := []) hT rfl rfl rfl fn42 rfl (ACalls.mono (node_okR _ ho hb 8 (by omega)) ?_)
  rintro y σ' ⟨rfl, rfl⟩
  repeat (first | (with_reducible first | refine AW.seq ?_ | refine AW.block ?_ | refine AW.skip ?_ | refine AW.ret ?_ | refine AW.exit ?_ | refine AW.reg hT ?_) | ((with_reducible refine AW.cond_true ?_ ?_); · rfl) | ((with_reducible refine AW.cond_false ?_ ?_); · rfl) | simp (maxSteps := 3000000) (maxDischargeDepth := 12) only [seval,push_cast,appendX,Try.results27,oC,dcwb])
  exact ⟨_, item_nil ({ zF 1 with a := nodeA b 0, b := readA b 6 2, c := nodeA b 8 }), rfl, by repeat (first | exact Ext.refl _ _ | assumption | refine Ext.push ?_ _ | ((refine Ext.set ?_ ?_ _); rotate_left; · (simp (maxSteps := 3000000) (maxDischargeDepth := 12) only [push_cast, appendX, Nat.reduceAdd, Nat.reduceEqDiff, Nat.reduceLT, Nat.reduceLeDiff, reduceIte, reduceCtorEq, dcwb])) | ((refine Ext.then1 (by assumption) ?_ ?_); rotate_left; · (intro p hp _; first | assumption | exact List.mem_cons_of_mem _ hp | (cases hp; done) | (simp at hp; subst hp; simp))))⟩
theorem rguess_6 (σ : Heap) (k : Int) (ho : Octs b) (hb : b.length ≤ 1000000)  : ACalls Try.prog 27 [.agg (oC 6 k b)] σ (fun y σ' => y = .agg (itC ({ zF 6 with a := nodeA b 0, b := readA b 5 1, c := readA b 6 2 }) (.imm ((([] : List Int)).map eI))) ∧ Ext [] σ σ') := by
  refine ACalls.tells ?_
  have h5_1 := readA_bound ho 5 1
  have eh5_1 : (256 : Int) ^ 1 = 256 := by decide
  rw [eh5_1] at h5_1
  have dcwb : IntKind.i64.wrap (readA b 5 1) = readA b 5 1 := wrap_i64 (by omega) (by omega)
  have h6_2 := readA_bound ho 6 2
  have eh6_2 : (256 : Int) ^ 2 = 65536 := by decide
  rw [eh6_2] at h6_2
  have dcwc : IntKind.i64.wrap (readA b 6 2) = readA b 6 2 := wrap_i64 (by omega) (by omega)
  refine ACalls.code hT Try.func27 rfl ?_
  simp only [Try.ntmps27, List.length_cons, List.length_nil, Nat.reduceSub, Nat.reduceAdd, List.replicate, List.cons_append, List.nil_append]
  repeat (first | (with_reducible first | refine AW.seq ?_ | refine AW.block ?_ | refine AW.skip ?_ | refine AW.ret ?_ | refine AW.exit ?_ | refine AW.reg hT ?_) | ((with_reducible refine AW.cond_true ?_ ?_); · rfl) | ((with_reducible refine AW.cond_false ?_ ?_); · rfl) | simp (maxSteps := 3000000) (maxDischargeDepth := 12) only [seval,push_cast,appendX,Try.results27,oC,dcwb,dcwc])
  refine AOpsL.call (first := []) (cap := []) hT rfl rfl rfl fn42 rfl (ACalls.mono (node_okR _ ho hb 0 (by omega)) ?_)
  rintro y σ' ⟨rfl, rfl⟩
  repeat (first | (with_reducible first | refine AW.seq ?_ | refine AW.block ?_ | refine AW.skip ?_ | refine AW.ret ?_ | refine AW.exit ?_ | refine AW.reg hT ?_) | ((with_reducible refine AW.cond_true ?_ ?_); · rfl) | ((with_reducible refine AW.cond_false ?_ ?_); · rfl) | simp (maxSteps := 3000000) (maxDischargeDepth := 12) only [seval,push_cast,appendX,Try.results27,oC,dcwb,dcwc])
  refine AOpsL.call (first := []) (cap := []) hT rfl rfl rfl fn43 rfl (ACalls.mono (read_ok _ ho hb 5 1 (by omega) (by omega)) ?_)
  rintro y σ' ⟨rfl, rfl⟩
  repeat (first | (with_reducible first | refine AW.seq ?_ | refine AW.block ?_ | refine AW.skip ?_ | refine AW.ret ?_ | refine AW.exit ?_ | refine AW.reg hT ?_) | ((with_reducible refine AW.cond_true ?_ ?_); · rfl) | ((with_reducible refine AW.cond_false ?_ ?_); · rfl) | simp (maxSteps := 3000000) (maxDischargeDepth := 12) only [seval,push_cast,appendX,Try.results27,oC,dcwb,dcwc])
  refine AOpsL.call (first := []) (cap := []) hT rfl rfl rfl fn43 rfl (ACalls.mono (read_ok _ ho hb 6 2 (by omega) (by omega)) ?_)
  rintro y σ' ⟨rfl, rfl⟩
  repeat (first | (with_reducible first | refine AW.seq ?_ | refine AW.block ?_ | refine AW.skip ?_ | refine AW.ret ?_ | refine AW.exit ?_ | refine AW.reg hT ?_) | ((with_reducible refine AW.cond_true ?_ ?_); · rfl) | ((with_reducible refine AW.cond_false ?_ ?_); · rfl) | simp (maxSteps := 3000000) (maxDischargeDepth := 12) only [seval,push_cast,appendX,Try.results27,oC,dcwb,dcwc])
  exact ⟨_, item_nil ({ zF 6 with a := nodeA b 0, b := readA b 5 1, c := readA b 6 2 }), rfl, by repeat (first | exact Ext.refl _ _ | assumption | refine Ext.push ?_ _ | ((refine Ext.set ?_ ?_ _); rotate_left; · (simp (maxSteps := 3000000) (maxDischargeDepth := 12) only [push_cast, appendX, Nat.reduceAdd, Nat.reduceEqDiff, Nat.reduceLT, Nat.reduceLeDiff, reduceIte, reduceCtorEq, dcwb, dcwc])) | ((refine Ext.then1 (by assumption) ?_ ?_); rotate_left; · (intro p hp _; first | assumption | exact List.mem_cons_of_mem _ hp | (cases hp; done) | (simp at hp; subst hp; simp))))⟩
theorem rguess_5 (σ : Heap) (k : Int) (ho : Octs b) (hb : b.length ≤ 1000000)  : ACalls Try.prog 27 [.agg (oC 5 k b)] σ (fun y σ' => y = .agg (itC ({ zF 5 with u := readA b 0 4 }) (.imm ((([] : List Int)).map eI))) ∧ Ext [] σ σ') := by
  refine ACalls.tells ?_
  refine ACalls.code hT Try.func27 rfl ?_
  simp only [Try.ntmps27, List.length_cons, List.length_nil, Nat.reduceSub, Nat.reduceAdd, List.replicate, List.cons_append, List.nil_append]
  repeat (first | (with_reducible first | refine AW.seq ?_ | refine AW.block ?_ | refine AW.skip ?_ | refine AW.ret ?_ | refine AW.exit ?_ | refine AW.reg hT ?_) | ((with_reducible refine AW.cond_true ?_ ?_); · rfl) | ((with_reducible refine AW.cond_false ?_ ?_); · rfl) | simp (maxSteps := 3000000) (maxDischargeDepth := 12) only [seval,push_cast,appendX,Try.results27,oC])
  refine AOpsL.call (first := []) (cap := []) hT rfl rfl rfl fn43 rfl (ACalls.mono (read_ok _ ho hb 0 4 (by omega) (by omega)) ?_)
  rintro y σ' ⟨rfl, rfl⟩
  repeat (first | (with_reducible first | refine AW.seq ?_ | refine AW.block ?_ | refine AW.skip ?_ | refine AW.ret ?_ | refine AW.exit ?_ | refine AW.reg hT ?_) | ((with_reducible refine AW.cond_true ?_ ?_); · rfl) | ((with_reducible refine AW.cond_false ?_ ?_); · rfl) | simp (maxSteps := 3000000) (maxDischargeDepth := 12) only [seval,push_cast,appendX,Try.results27,oC])
  exact ⟨_, item_nil ({ zF 5 with u := readA b 0 4 }), rfl, by repeat (first | exact Ext.refl _ _ | assumption | refine Ext.push ?_ _ | ((refine Ext.set ?_ ?_ _); rotate_left; · (simp (maxSteps := 3000000) (maxDischargeDepth := 12) only [push_cast, appendX, Nat.reduceAdd, Nat.reduceEqDiff, Nat.reduceLT, Nat.reduceLeDiff, reduceIte, reduceCtorEq])) | ((refine Ext.then1 (by assumption) ?_ ?_); rotate_left; · (intro p hp _; first | assumption | exact List.mem_cons_of_mem _ hp | (cases hp; done) | (simp at hp; subst hp; simp))))⟩
theorem rguess_16 (σ : Heap) (k : Int) (ho : Octs b) (hb : b.length ≤ 1000000)  : ACalls Try.prog 27 [.agg (oC 16 k b)] σ (fun y σ' => y = .agg (itC ({ zF 16 with a := readA b 0 4 }) (.imm ((([] : List Int)).map eI))) ∧ Ext [] σ σ') := by
  refine ACalls.tells ?_
  have h0_4 := readA_bound ho 0 4
  have eh0_4 : (256 : Int) ^ 4 = 4294967296 := by decide
  rw [eh0_4] at h0_4
  have dcwa : IntKind.i64.wrap (readA b 0 4) = readA b 0 4 := wrap_i64 (by omega) (by omega)
  refine ACalls.code hT Try.func27 rfl ?_
  simp only [Try.ntmps27, List.length_cons, List.length_nil, Nat.reduceSub, Nat.reduceAdd, List.replicate, List.cons_append, List.nil_append]
  repeat (first | (with_reducible first | refine AW.seq ?_ | refine AW.block ?_ | refine AW.skip ?_ | refine AW.ret ?_ | refine AW.exit ?_ | refine AW.reg hT ?_) | ((with_reducible refine AW.cond_true ?_ ?_); · rfl) | ((with_reducible refine AW.cond_false ?_ ?_); · rfl) | simp (maxSteps := 3000000) (maxDischargeDepth := 12) only [seval,push_cast,appendX,Try.results27,oC,dcwa])
  refine AOpsL.call (first := []) (cap := []) hT rfl rfl rfl fn43 rfl (ACalls.mono (read_ok _ ho hb 0 4 (by omega) (by omega)) ?_)
  rintro y σ' ⟨rfl, rfl⟩
  repeat (first | (with_reducible first | refine AW.seq ?_ | refine AW.block ?_ | refine AW.skip ?_ | refine AW.ret ?_ | refine AW.exit ?_ | refine AW.reg hT ?_) | ((with_reducible refine AW.cond_true ?_ ?_); · rfl) | ((with_reducible refine AW.cond_false ?_ ?_); · rfl) | simp (maxSteps := 3000000) (maxDischargeDepth := 12) only [seval,push_cast,appendX,Try.results27,oC,dcwa])
  exact ⟨_, item_nil ({ zF 16 with a := readA b 0 4 }), rfl, by repeat (first | exact Ext.refl _ _ | assumption | refine Ext.push ?_ _ | ((refine Ext.set ?_ ?_ _); rotate_left; · (simp (maxSteps := 3000000) (maxDischargeDepth := 12) only [push_cast, appendX, Nat.reduceAdd, Nat.reduceEqDiff, Nat.reduceLT, Nat.reduceLeDiff, reduceIte, reduceCtorEq, dcwa])) | ((refine Ext.then1 (by assumption) ?_ ?_); rotate_left; · (intro p hp _; first | assumption | exact List.mem_cons_of_mem _ hp | (cases hp; done) | (simp at hp; subst hp; simp))))⟩
theorem rguess_21 (σ : Heap) (k : Int) (ho : Octs b) (hb : b.length ≤ 1000000)  : ACalls Try.prog 27 [.agg (oC 21 k b)] σ (fun y σ' => y = .agg (itC (zF 21) (.imm ((listA b).map eI))) ∧ Ext [] σ σ') := by
  refine ACalls.code hT Try.func27 rfl ?_
  simp only [Try.ntmps27, List.length_cons, List.length_nil, Nat.reduceSub, Nat.reduceAdd, List.replicate, List.cons_append, List.nil_append]
  repeat (first | (with_reducible first | refine AW.seq ?_ | refine AW.block ?_ | refine AW.skip ?_ | refine AW.ret ?_ | refine AW.exit ?_ | refine AW.reg hT ?_) | ((with_reducible refine AW.cond_true ?_ ?_); · rfl) | ((with_reducible refine AW.cond_false ?_ ?_); · rfl) | simp (maxSteps := 3000000) (maxDischargeDepth := 12) only [seval,push_cast,appendX,Try.results27,oC])
  refine AOpsL.call (first := []) (cap := []) hT rfl rfl rfl fn44 rfl (ACalls.mono (rlist_ok _ ho hb) ?_)
  rintro y σ2 ⟨rfl, xt2⟩
  repeat (first | (with_reducible first | refine AW.seq ?_ | refine AW.block ?_ | refine AW.skip ?_ | refine AW.ret ?_ | refine AW.exit ?_ | refine AW.reg hT ?_) | ((with_reducible refine AW.cond_true ?_ ?_); · rfl) | ((with_reducible refine AW.cond_false ?_ ?_); · rfl) | simp (maxSteps := 3000000) (maxDischargeDepth := 12) only [seval,push_cast,appendX,Try.results27,oC,xt2.2,xt2.ltT,xt2.leT])
  exact ⟨rfl, by repeat (first | exact Ext.refl _ _ | assumption | refine Ext.push ?_ _ | ((refine Ext.set ?_ ?_ _); rotate_left; · (simp (maxSteps := 3000000) (maxDischargeDepth := 12) only [push_cast, appendX, Nat.reduceAdd, Nat.reduceEqDiff, Nat.reduceLT, Nat.reduceLeDiff, reduceIte, reduceCtorEq, xt2.2, xt2.ltT, xt2.leT])) | ((refine Ext.then1 (by assumption) ?_ ?_); rotate_left; · (intro p hp _; first | assumption | exact List.mem_cons_of_mem _ hp | (cases hp; done) | (simp at hp; subst hp; simp))))⟩
end
end Go.Proofs.Ytdibcgcildcjnaa.Cm
