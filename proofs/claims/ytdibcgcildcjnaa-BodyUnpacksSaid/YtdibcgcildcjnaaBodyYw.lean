/- The document's package body: what an object would say. -/
import Derived.Test.YtdibcgcildcjnaaBodyYu
namespace Go.Proofs.Ytdibcgcildcjnaa.Cm
open Go.RowKit
set_option linter.unusedVariables false
set_option linter.unusedSimpArgs false
set_option maxRecDepth 20000
set_option maxHeartbeats 8000000
section
variable {c : Int} {b : List Int}
theorem rguess_207 (σ : Heap) (k : Int) (ho : Octs b) (hb : b.length ≤ 1000000)  : ACalls Try.prog 27 [.agg (oC 207 k b)] σ (fun y σ' => y = .agg (itC ({ zF 207 with no := readA b 0 4, an := readA b 4 4, al := readA b 8 4, su := readA b 12 1, ho := readA b 13 1 }) (.imm ((([] : List Int)).map eI))) ∧ Ext [] σ σ') := by
  refine ACalls.tells ?_
  have h0_4 := readA_bound ho 0 4
  have eh0_4 : (256 : Int) ^ 4 = 4294967296 := by decide
  rw [eh0_4] at h0_4
  have dcwno : IntKind.u32.wrap (readA b 0 4) = readA b 0 4 := wrap_u32 (by omega) (by omega)
  have h4_4 := readA_bound ho 4 4
  have eh4_4 : (256 : Int) ^ 4 = 4294967296 := by decide
  rw [eh4_4] at h4_4
  have dcwan : IntKind.u32.wrap (readA b 4 4) = readA b 4 4 := wrap_u32 (by omega) (by omega)
  have h8_4 := readA_bound ho 8 4
  have eh8_4 : (256 : Int) ^ 4 = 4294967296 := by decide
  rw [eh8_4] at h8_4
  have dcwal : IntKind.u32.wrap (readA b 8 4) = readA b 8 4 := wrap_u32 (by omega) (by omega)
  have h12_1 := readA_bound ho 12 1
  have eh12_1 : (256 : Int) ^ 1 = 256 := by decide
  rw [eh12_1] at h12_1
  have dcwsu : IntKind.i64.wrap (readA b 12 1) = readA b 12 1 := wrap_i64 (by omega) (by omega)
  have h13_1 := readA_bound ho 13 1
  have eh13_1 : (256 : Int) ^ 1 = 256 := by decide
  rw [eh13_1] at h13_1
  have dcwho : IntKind.i64.wrap (readA b 13 1) = readA b 13 1 := wrap_i64 (by omega) (by omega)
  refine ACalls.code hT Try.func27 rfl ?_
  simp only [Try.ntmps27, List.length_cons, List.length_nil, Nat.reduceSub, Nat.reduceAdd, List.replicate, List.cons_append, List.nil_append]
  repeat (first | (with_reducible first | refine AW.seq ?_ | refine AW.block ?_ | refine AW.skip ?_ | refine AW.ret ?_ | refine AW.exit ?_ | refine AW.reg hT ?_) | ((with_reducible refine AW.cond_true ?_ ?_); · rfl) | ((with_reducible refine AW.cond_false ?_ ?_); · rfl) | simp (maxSteps := 3000000) (maxDischargeDepth := 12) only [seval,push_cast,appendX,Try.results27,oC,dcwno,dcwan,dcwal,dcwsu,dcwho])
  refine AOpsL.call (first := []) (cap := []) hT rfl rfl rfl fn43 rfl (ACalls.mono (read_ok _ ho hb 0 4 (by omega) (by omega)) ?_)
  rintro y σ' ⟨rfl, rfl⟩
  repeat (first | (with_reducible first | refine AW.seq ?_ | refine AW.block ?_ | refine AW.skip ?_ | refine AW.ret ?_ | refine AW.exit ?_ | refine AW.reg hT ?_) | ((with_reducible refine AW.cond_true ?_ ?_); · rfl) | ((with_reducible refine AW.cond_false ?_ ?_); · rfl) | simp (maxSteps := 3000000) (maxDischargeDepth := 12) only [seval,push_cast,appendX,Try.results27,oC,dcwno,dcwan,dcwal,dcwsu,dcwho])
  refine AOpsL.call (first := []) (cap := []) hT rfl rfl rfl fn43 rfl (ACalls.mono (read_ok _ ho hb 4 4 (by omega) (by omega)) ?_)
  rintro y σ' ⟨rfl, rfl⟩
  repeat (first | (with_reducible first | refine AW.seq ?_ | refine AW.block ?_ | refine AW.skip ?_ | refine AW.ret ?_ | refine AW.exit ?_ | refine AW.reg hT ?_) | ((with_reducible refine AW.cond_true ?_ ?_); · rfl) | ((with_reducible refine AW.cond_false ?_ ?_); · rfl) | simp (maxSteps := 3000000) (maxDischargeDepth := 12) only [seval,push_cast,appendX,Try.results27,oC,dcwno,dcwan,dcwal,dcwsu,dcwho])
  refine AOpsL.call (first := []) (cap := []) hT rfl rfl rfl fn43 rfl (ACalls.mono (read_ok _ ho hb 8 4 (by omega) (by omega)) ?_)
  rintro y σ' ⟨rfl, rfl⟩
  repeat (first | (with_reducible first | refine AW.seq ?_ | refine AW.block ?_ | refine AW.skip ?_ | refine AW.ret ?_ | refine AW.exit ?_ | refine AW.reg hT ?_) | ((with_reducible refine AW.cond_true ?_ ?_); · rfl) | ((with_reducible refine AW.cond_false ?_ ?_); · rfl) | simp (maxSteps := 3000000) (maxDischargeDepth := 12) only [seval,push_cast,appendX,Try.results27,oC,dcwno,dcwan,dcwal,dcwsu,dcwho])
  refine AOpsL.call (first := []) (cap := []) hT rfl rfl rfl fn43 rfl (ACalls.mono (read_ok _ ho hb 12 1 (by omega) (by omega)) ?_)
  rintro y σ' ⟨rfl, rfl⟩
  repeat (first | (with_reducible first | refine AW.seq ?_ | refine AW.block ?_ | refine AW.skip ?_ | refine AW.ret ?_ | refine AW.exit ?_ | refine AW.reg hT ?_) | ((with_reducible refine AW.cond_true ?_ ?_); · rfl) | ((with_reducible refine AW.cond_false ?_ ?_); · rfl) | simp (maxSteps := 3000000) (maxDischargeDepth := 12) only [seval,push_cast,appendX,Try.results27,oC,dcwno,dcwan,dcwal,dcwsu,dcwho])
  refine AOpsL.call (first := []) (cap := []) hT rfl rfl rfl fn43 rfl (ACalls.mono (read_ok _ ho hb 13 1 (by omega) (by omega)) ?_)
  rintro y σ' ⟨rfl, rfl⟩
  repeat (first | (with_reducible first | refine AW.seq ?_ | refine AW.block ?_ | refine AW.skip ?_ | refine AW.ret ?_ | refine AW.exit ?_ | refine AW.reg hT ?_) | ((with_reducible refine AW.cond_true ?_ ?_); · rfl) | ((with_reducible refine AW.cond_false ?_ ?_); · rfl) | simp (maxSteps := 3000000) (maxDischargeDepth := 12) only [seval,push_cast,appendX,Try.results27,oC,dcwno,dcwan,dcwal,dcwsu,dcwho])
  exact ⟨_, item_nil ({ zF 207 with no := readA b 0 4, an := readA b 4 4, al := readA b 8 4, su := readA b 12 1, ho := readA b 13 1 }), rfl, by repeat (first | exact Ext.refl _ _ | assumption | refine Ext.push ?_ _ | ((refine Ext.set ?_ ?_ _); rotate_left; · (simp (maxSteps := 3000000) (maxDischargeDepth := 12) only [push_cast, appendX, Nat.reduceAdd, Nat.reduceEqDiff, Nat.reduceLT, Nat.reduceLeDiff, reduceIte, reduceCtorEq, dcwno, dcwan, dcwal, dcwsu, dcwho])) | ((refine Ext.then1 (by assumption) ?_ ?_); rotate_left; · (intro p hp _; first | assumption | exact List.mem_cons_of_mem _ hp | (cases hp; done) | (simp at hp; subst hp; simp))))⟩
theorem rguess_11 (σ : Heap) (k : Int) (ho : Octs b) (hb : b.length ≤ 1000000)  : ACalls Try.prog 27 [.agg (oC 11 k b)] σ (fun y σ' => y = .agg (itC ({ zF 11 with a := nodeA b 0, b := readA b 6 2 }) (.imm ((([] : List Int)).map eI))) ∧ Ext [] σ σ') := by
  refine ACalls.tells ?_
  have h6_2 := readA_bound ho 6 2
  have eh6_2 : (256 : Int) ^ 2 = 65536 := by decide
  rw [eh6_2] at h6_2
  have dcwb : IntKind.i64.wrap (readA b 6 2) = readA b 6 2 := wrap_i64 (by omega) (by omega)
  refine ACalls.code hT Try.func27 rfl ?_
  simp only [Try.ntmps27, List.length_cons, List.length_nil, Nat.reduceSub, Nat.reduceAdd, List.replicate, List.cons_append, List.nil_append]
  repeat (first | (with_reducible first | refine AW.seq ?_ | refine AW.block ?_ | refine AW.skip ?_ | refine AW.ret ?_ | refine AW.exit ?_ | refine AW.reg hT ?_) | ((with_reducible refine AW.cond_true ?_ ?_); · rfl) | ((with_reducible refine AW.cond_false ?_ ?_); · rfl) | simp (maxSteps := 3000000) (maxDischargeDepth := 12) only [seval,push_cast,appendX,Try.results27,oC,dcwb])
  refine AOpsL.call (first := []) (cap := []) hT rfl rfl rfl fn42 rfl (ACalls.mono (node_okR _ ho hb 0 (by omega)) ?_)
  rintro y σ' ⟨rfl, rfl⟩
  repeat (first | (with_reducible first | refine AW.seq ?_ | refine AW.block ?_ | refine AW.skip ?_ | refine AW.ret ?_ | refine AW.exit ?_ | refine AW.reg hT ?_) | ((with_reducible refine AW.cond_true ?_ ?_); · rfl) | ((with_reducible refine AW.cond_false ?_ ?_); · rfl) | simp (maxSteps := 3000000) (maxDischargeDepth := 12) only [seval,push_cast,appendX,Try.results27,oC,dcwb])
  refine AOpsL.call (first := []) (cap := []) hT rfl rfl rfl fn43 rfl (ACalls.mono (read_ok _ ho hb 6 2 (by omega) (by omega)) ?_)
  rintro y σ' ⟨rfl, rfl⟩
  repeat (first | (with_reducible first | refine AW.seq ?_ | refine AW.block ?_ | refine AW.skip ?_ | refine AW.ret ?_ | refine AW.exit ?_ | refine AW.reg hT ?_) | ((with_reducible refine AW.cond_true ?_ ?_); · rfl) | ((with_reducible refine AW.cond_false ?_ ?_); · rfl) | simp (maxSteps := 3000000) (maxDischargeDepth := 12) only [seval,push_cast,appendX,Try.results27,oC,dcwb])
  exact ⟨_, item_nil ({ zF 11 with a := nodeA b 0, b := readA b 6 2 }), rfl, by repeat (first | exact Ext.refl _ _ | assumption | refine Ext.push ?_ _ | ((refine Ext.set ?_ ?_ _); rotate_left; · (simp (maxSteps := 3000000) (maxDischargeDepth := 12) only [push_cast, appendX, Nat.reduceAdd, Nat.reduceEqDiff, Nat.reduceLT, Nat.reduceLeDiff, reduceIte, reduceCtorEq, dcwb])) | ((refine Ext.then1 (by assumption) ?_ ?_); rotate_left; · (intro p hp _; first | assumption | exact List.mem_cons_of_mem _ hp | (cases hp; done) | (simp at hp; subst hp; simp))))⟩
theorem rguess_9 (σ : Heap) (k : Int) (ho : Octs b) (hb : b.length ≤ 1000000)  : ACalls Try.prog 27 [.agg (oC 9 k b)] σ (fun y σ' => y = .agg (itC ({ zF 9 with u := readA b 0 8 }) (.imm ((([] : List Int)).map eI))) ∧ Ext [] σ σ') := by
  refine ACalls.tells ?_
  refine ACalls.code hT Try.func27 rfl ?_
  simp only [Try.ntmps27, List.length_cons, List.length_nil, Nat.reduceSub, Nat.reduceAdd, List.replicate, List.cons_append, List.nil_append]
  repeat (first | (with_reducible first | refine AW.seq ?_ | refine AW.block ?_ | refine AW.skip ?_ | refine AW.ret ?_ | refine AW.exit ?_ | refine AW.reg hT ?_) | ((with_reducible refine AW.cond_true ?_ ?_); · rfl) | ((with_reducible refine AW.cond_false ?_ ?_); · rfl) | simp (maxSteps := 3000000) (maxDischargeDepth := 12) only [seval,push_cast,appendX,Try.results27,oC])
  refine AOpsL.call (first := []) (cap := []) hT rfl rfl rfl fn43 rfl (ACalls.mono (read_ok _ ho hb 0 8 (by omega) (by omega)) ?_)
  rintro y σ' ⟨rfl, rfl⟩
  repeat (first | (with_reducible first | refine AW.seq ?_ | refine AW.block ?_ | refine AW.skip ?_ | refine AW.ret ?_ | refine AW.exit ?_ | refine AW.reg hT ?_) | ((with_reducible refine AW.cond_true ?_ ?_); · rfl) | ((with_reducible refine AW.cond_false ?_ ?_); · rfl) | simp (maxSteps := 3000000) (maxDischargeDepth := 12) only [seval,push_cast,appendX,Try.results27,oC])
  exact ⟨_, item_nil ({ zF 9 with u := readA b 0 8 }), rfl, by repeat (first | exact Ext.refl _ _ | assumption | refine Ext.push ?_ _ | ((refine Ext.set ?_ ?_ _); rotate_left; · (simp (maxSteps := 3000000) (maxDischargeDepth := 12) only [push_cast, appendX, Nat.reduceAdd, Nat.reduceEqDiff, Nat.reduceLT, Nat.reduceLeDiff, reduceIte, reduceCtorEq])) | ((refine Ext.then1 (by assumption) ?_ ?_); rotate_left; · (intro p hp _; first | assumption | exact List.mem_cons_of_mem _ hp | (cases hp; done) | (simp at hp; subst hp; simp))))⟩
theorem rguess_19 (σ : Heap) (k : Int) (ho : Octs b) (hb : b.length ≤ 1000000)  : ACalls Try.prog 27 [.agg (oC 19 k b)] σ (fun y σ' => y = .agg (itC ({ zF 19 with a := readA b 0 4 }) (.imm ((([] : List Int)).map eI))) ∧ Ext [] σ σ') := by
  refine ACalls.tells ?_
  have h0_4 := readA_bound ho 0 4
  have eh0_4 : (256 : Int) ^ 4 = 4294967296 := by decide
  rw [eh0_4] at h0_4
  have dcwa : IntKind.i64.wrap (readA b 0 4) = readA b 0 4 := wrap_i64 (by omega) (by omega)
  refine ACalls.code hT Try.func27 rfl ?_
  simp only [Try.ntmps27, List.length_cons, List.length_nil, Nat.reduceSub, Nat.reduceAdd, List.replicate, List.cons_append, List.nil_append]
  repeat (first | (with_reducible first | refine AW.seq ?_ | refine AW.block ?_ | refine AW.skip ?_ | refine AW.ret ?_ | refine AW.exit ?_ | refine AW.reg hT ?_) | ((with_reducible refine AW.cond_true ?_ ?_); · rfl) | ((with_reducible refine AW.cond_false ?_ ?_); · rfl) | simp (maxSteps := 3000000) (maxDischargeDepth := 12) only [seval,push_cast,appendX,Try.results27,oC,dcwa])
  refine AOpsL.call (first := []) (cap := []) hT rfl rfl rfl fn43 rfl (ACalls.mono (read_ok _ ho hb 0 4 (by omega) (by omega)) ?_)
  rintro y σ' ⟨rfl, rfl⟩
  repeat (first | (with_reducible first | refine AW.seq ?_ | refine AW.block ?_ | refine AW.skip ?_ | refine AW.ret ?_ | refine AW.exit ?_ | refine AW.reg hT ?_) | ((with_reducible refine AW.cond_true ?_ ?_); · rfl) | ((with_reducible refine AW.cond_false ?_ ?_); · rfl) | simp (maxSteps := 3000000) (maxDischargeDepth := 12) only [seval,push_cast,appendX,Try.results27,oC,dcwa])
  exact ⟨_, item_nil ({ zF 19 with a := readA b 0 4 }), rfl, by repeat (first | exact Ext.refl _ _ | assumption | refine Ext.push ?_ _ | ((refine Ext.set ?_ ?_ _); rotate_left; · (simp (maxSteps := 3000000) (maxDischargeDepth := 12) only [push_cast, appendX, Nat.reduceAdd, Nat.reduceEqDiff, Nat.reduceLT, Nat.reduceLeDiff, reduceIte, reduceCtorEq, dcwa])) | ((refine Ext.then1 (by assumption) ?_ ?_); rotate_left; · (intro p hp _; first | assumption | exact List.mem_cons_of_mem _ hp | (cases hp; done) | (simp at hp; subst hp; simp))))⟩
theorem rguess_23 (σ : Heap) (k : Int) (ho : Octs b) (hb : b.length ≤ 1000000)  : ACalls Try.prog 27 [.agg (oC 23 k b)] σ (fun y σ' => y = .agg (itC ({ zF 23 with u := readA b 4 4 }) (.imm ((([] : List Int)).map eI))) ∧ Ext [] σ σ') := by
  refine ACalls.tells ?_
  refine ACalls.code hT Try.func27 rfl ?_
  simp only [Try.ntmps27, List.length_cons, List.length_nil, Nat.reduceSub, Nat.reduceAdd, List.replicate, List.cons_append, List.nil_append]
  repeat (first | (with_reducible first | refine AW.seq ?_ | refine AW.block ?_ | refine AW.skip ?_ | refine AW.ret ?_ | refine AW.exit ?_ | refine AW.reg hT ?_) | ((with_reducible refine AW.cond_true ?_ ?_); · rfl) | ((with_reducible refine AW.cond_false ?_ ?_); · rfl) | simp (maxSteps := 3000000) (maxDischargeDepth := 12) only [seval,push_cast,appendX,Try.results27,oC])
  refine AOpsL.call (first := []) (cap := []) hT rfl rfl rfl fn43 rfl (ACalls.mono (read_ok _ ho hb 4 4 (by omega) (by omega)) ?_)
  rintro y σ' ⟨rfl, rfl⟩
  repeat (first | (with_reducible first | refine AW.seq ?_ | refine AW.block ?_ | refine AW.skip ?_ | refine AW.ret ?_ | refine AW.exit ?_ | refine AW.reg hT ?_) | ((with_reducible refine AW.cond_true ?_ ?_); · rfl) | ((with_reducible refine AW.cond_false ?_ ?_); · rfl) | simp (maxSteps := 3000000) (maxDischargeDepth := 12) only [seval,push_cast,appendX,Try.results27,oC])
  exact ⟨_, item_nil ({ zF 23 with u := readA b 4 4 }), rfl, by repeat (first | exact Ext.refl _ _ | assumption | refine Ext.push ?_ _ | ((refine Ext.set ?_ ?_ _); rotate_left; · (simp (maxSteps := 3000000) (maxDischargeDepth := 12) only [push_cast, appendX, Nat.reduceAdd, Nat.reduceEqDiff, Nat.reduceLT, Nat.reduceLeDiff, reduceIte, reduceCtorEq])) | ((refine Ext.then1 (by assumption) ?_ ?_); rotate_left; · (intro p hp _; first | assumption | exact List.mem_cons_of_mem _ hp | (cases hp; done) | (simp at hp; subst hp; simp))))⟩
end
end Go.Proofs.Ytdibcgcildcjnaa.Cm
