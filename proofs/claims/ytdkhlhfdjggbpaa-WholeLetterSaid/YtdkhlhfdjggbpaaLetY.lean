/- Package wire, beside messages. -/
import Derived.Test.YtdkhlhfdjggbpaaCmYl
import Derived.Test.YtdkhlhfdjggbpaaCOctY
namespace Go.Proofs.Ytdkhlhfdjggbpaa.Cm
open Go.RowKit
set_option linter.unusedVariables false
set_option linter.unusedSimpArgs false
set_option maxRecDepth 20000
set_option maxHeartbeats 8000000
structure Nt where
  f0 : Int
  f1 : Int
  f2 : Int
  f3 : List Int
def eNt (x : Nt) : List DV := [.sc (.int .i64 x.f0), .sc (.int .i64 x.f1), .sc (.int .i64 x.f2), .imm (bytesD x.f3)]
abbrev eN := eNt
theorem wnew0_ok (σ : Heap) (n : Int) (h1 : 1 ≤ n) (h2 : n ≤ 512) : ACalls Try.prog 4 [.sc (.int .i64 n)] σ (fun x σ' => x = .ptr σ.n 0 0 1 ∧ σ' = σ.push ⟨[[.sc (.int .i64 n), .sc (.slice none 0 0), .sc (.int .i64 0)]], 54, true⟩) := by
  refine ACalls.code hT Try.func4 rfl ?_
  simp only [Try.ntmps4, List.length_cons, List.length_nil, Nat.reduceSub, Nat.reduceAdd, List.replicate, List.cons_append, List.nil_append]
  have hd : decide (n < 1) = false := by simpa using h1
  have hd2 : decide (512 < n) = false := by simpa using h2
  repeat (first | (with_reducible first | refine AW.seq ?_ | refine AW.block ?_ | refine AW.skip ?_ | refine AW.ret ?_ | refine AW.exit ?_ | refine AW.reg hT ?_) | ((with_reducible refine AW.cond_true ?_ ?_); · rfl) | ((with_reducible refine AW.cond_false ?_ ?_); · rfl) | simp (maxSteps := 3000000) (maxDischargeDepth := 12) only [seval,push_cast,appendX,Try.results4,hd,hd2])
def WObj (room : Int) (d : DV) (lost : Int) : AObj := ⟨[[.sc (.int .i64 room), d, .sc (.int .i64 lost)]], 54, true⟩
theorem wgood0_ok (σ : Heap) {p : Nat} {room lost : Int} {d : DV} (h : σ.get p = some (WObj room d lost)) : ACalls Try.prog 14 [.ptr p 0 0 1] σ (fun x σ' => x = .sc (.bool (decide (0 < room))) ∧ σ' = σ) := by
  refine ACalls.code hT Try.func14 rfl ?_
  simp only [Try.ntmps14, List.length_cons, List.length_nil, Nat.reduceSub, Nat.reduceAdd, List.replicate, List.cons_append, List.nil_append]
  repeat (first | (with_reducible first | refine AW.seq ?_ | refine AW.block ?_ | refine AW.skip ?_ | refine AW.ret ?_ | refine AW.exit ?_ | refine AW.reg hT ?_) | ((with_reducible refine AW.cond_true ?_ ?_); · rfl) | ((with_reducible refine AW.cond_false ?_ ?_); · rfl) | simp (maxSteps := 3000000) (maxDischargeDepth := 12) only [seval,push_cast,appendX,Try.results14,h,WObj])
def Wr (σ : Heap) (p : Nat) (room : Int) (l : List Nt) (lost : Int) : Prop := ∃ d, σ.get p = some (WObj room d lost) ∧ Hold σ d 29 (l.map eN)
theorem whas0_ok (σ : Heap) {p : Nat} {room lost : Int} {l : List Nt} (i : Int) (hw : Wr σ p room l lost) : ACalls Try.prog 17 [.ptr p 0 0 1, .sc (.int .i64 i)] σ (fun x σ' => x = .sc (.bool (decide (0 ≤ i ∧ i < (l.length : Int)))) ∧ σ' = σ) := by
  obtain ⟨d, h, hh⟩ := hw
  refine ACalls.code hT Try.func17 rfl ?_
  simp only [Try.ntmps17, List.length_cons, List.length_nil, Nat.reduceSub, Nat.reduceAdd, List.replicate, List.cons_append, List.nil_append]
  by_cases h0 : 0 ≤ i
  · have hd : decide (0 ≤ i) = true := by simpa using h0
    rcases hh with ⟨rfl, he⟩ | ⟨t, full, rfl, hg, hle, htk⟩
    · have hl : l = [] := by simpa using he
      subst hl
      repeat (first | (with_reducible first | refine AW.seq ?_ | refine AW.block ?_ | refine AW.skip ?_ | refine AW.ret ?_ | refine AW.exit ?_ | refine AW.reg hT ?_) | ((with_reducible refine AW.cond_true ?_ ?_); · rfl) | ((with_reducible refine AW.cond_false ?_ ?_); · rfl) | simp (maxSteps := 3000000) (maxDischargeDepth := 12) only [seval,push_cast,appendX,Try.results17,h,WObj,hd])
      all_goals simp [h0]
    · rw [List.length_map] at h
      repeat (first | (with_reducible first | refine AW.seq ?_ | refine AW.block ?_ | refine AW.skip ?_ | refine AW.ret ?_ | refine AW.exit ?_ | refine AW.reg hT ?_) | ((with_reducible refine AW.cond_true ?_ ?_); · rfl) | ((with_reducible refine AW.cond_false ?_ ?_); · rfl) | simp (maxSteps := 3000000) (maxDischargeDepth := 12) only [seval,push_cast,appendX,Try.results17,h,WObj,hd])
      all_goals simp [h0]
  · have hd : decide (0 ≤ i) = false := by simpa using h0
    repeat (first | (with_reducible first | refine AW.seq ?_ | refine AW.block ?_ | refine AW.skip ?_ | refine AW.ret ?_ | refine AW.exit ?_ | refine AW.reg hT ?_) | ((with_reducible refine AW.cond_true ?_ ?_); · rfl) | ((with_reducible refine AW.cond_false ?_ ?_); · rfl) | simp (maxSteps := 3000000) (maxDischargeDepth := 12) only [seval,push_cast,appendX,Try.results17,h,WObj,hd])
    all_goals simp [h0]
theorem wlen0_ok (σ : Heap) {p : Nat} {room lost : Int} {l : List Nt} (hw : Wr σ p room l lost) (hr : 0 < room) : ACalls Try.prog 10 [.ptr p 0 0 1] σ (fun x σ' => x = .sc (.int .i64 l.length) ∧ σ' = σ) := by
  obtain ⟨d, h, hh⟩ := hw
  refine ACalls.code hT Try.func10 rfl ?_
  simp only [Try.ntmps10, List.length_cons, List.length_nil, Nat.reduceSub, Nat.reduceAdd, List.replicate, List.cons_append, List.nil_append]
  repeat (first | (with_reducible first | refine AW.seq ?_ | refine AW.block ?_ | refine AW.skip ?_ | refine AW.ret ?_ | refine AW.exit ?_ | refine AW.reg hT ?_) | ((with_reducible refine AW.cond_true ?_ ?_); · rfl) | ((with_reducible refine AW.cond_false ?_ ?_); · rfl) | simp (maxSteps := 3000000) (maxDischargeDepth := 12) only [seval,push_cast,appendX,Try.results10,h,WObj])
  refine AOpsL.call (first := []) (cap := []) hT rfl rfl rfl fn14 rfl ((wgood0_ok σ h).mono ?_)
  rintro x σ' ⟨rfl, rfl⟩
  have hd : decide (0 < room) = true := by simpa using hr
  rcases hh with ⟨rfl, he⟩ | ⟨t, full, rfl, hg, hle, htk⟩
  · have hl : l = [] := by simpa using he
    subst hl
    repeat (first | (with_reducible first | refine AW.seq ?_ | refine AW.block ?_ | refine AW.skip ?_ | refine AW.ret ?_ | refine AW.exit ?_ | refine AW.reg hT ?_) | ((with_reducible refine AW.cond_true ?_ ?_); · rfl) | ((with_reducible refine AW.cond_false ?_ ?_); · rfl) | simp (maxSteps := 3000000) (maxDischargeDepth := 12) only [seval,push_cast,appendX,Try.results10,h,WObj,hd])
    all_goals simp
  · rw [List.length_map] at h
    repeat (first | (with_reducible first | refine AW.seq ?_ | refine AW.block ?_ | refine AW.skip ?_ | refine AW.ret ?_ | refine AW.exit ?_ | refine AW.reg hT ?_) | ((with_reducible refine AW.cond_true ?_ ?_); · rfl) | ((with_reducible refine AW.cond_false ?_ ?_); · rfl) | simp (maxSteps := 3000000) (maxDischargeDepth := 12) only [seval,push_cast,appendX,Try.results10,h,WObj,hd])
theorem wclone0_ok (σ : Heap) (l : List Int) (hl : l.length ≤ 1000000) : ACalls Try.prog 30 [.imm (bytesD l)] σ (fun x σ' => x = .imm (bytesD l) ∧ Ext [] σ σ') := by
  refine ACalls.toImm (e := 5) ?_
  refine ACalls.code hT Try.func30 rfl ?_
  simp only [Try.ntmps30, List.length_cons, List.length_nil, Nat.reduceSub, Nat.reduceAdd, List.replicate, List.cons_append, List.nil_append]
  cases l with
  | nil =>
    repeat (first | (with_reducible first | refine AW.seq ?_ | refine AW.block ?_ | refine AW.skip ?_ | refine AW.ret ?_ | refine AW.exit ?_ | refine AW.reg hT ?_) | ((with_reducible refine AW.cond_true ?_ ?_); · rfl) | ((with_reducible refine AW.cond_false ?_ ?_); · rfl) | simp (maxSteps := 3000000) (maxDischargeDepth := 12) only [seval,push_cast,appendX,Try.results30,bytesD])
    refine AOpsL.rule hT rfl (AOp.eqNil_any hT (.inl rfl) rfl rfl rfl rfl (fun b => ?_))
    cases b
    · repeat (first | (with_reducible first | refine AW.seq ?_ | refine AW.block ?_ | refine AW.skip ?_ | refine AW.ret ?_ | refine AW.exit ?_ | refine AW.reg hT ?_) | ((with_reducible refine AW.cond_true ?_ ?_); · rfl) | ((with_reducible refine AW.cond_false ?_ ?_); · rfl) | simp (maxSteps := 3000000) (maxDischargeDepth := 12) only [seval,push_cast,appendX,Try.results30,bytesD])
      exact ⟨.inr ⟨σ.n, Nat.le_refl _, rfl, by simp⟩, (Ext.refl _ _).push _⟩
    · repeat (first | (with_reducible first | refine AW.seq ?_ | refine AW.block ?_ | refine AW.skip ?_ | refine AW.ret ?_ | refine AW.exit ?_ | refine AW.reg hT ?_) | ((with_reducible refine AW.cond_true ?_ ?_); · rfl) | ((with_reducible refine AW.cond_false ?_ ?_); · rfl) | simp (maxSteps := 3000000) (maxDischargeDepth := 12) only [seval,push_cast,appendX,Try.results30,bytesD])
      exact ⟨.inl ⟨rfl, rfl⟩, Ext.refl _ _⟩
  | cons a r =>
    have e : bytesD (a :: r) = [.sc (.int .u8 a)] :: bytesD r := rfl
    rw [e]
    have ha : ((bytesD r).all fun el => el.length == 1) = true := by
      rw [List.all_eq_true]; intro x hx; simp [bytesD_size r x hx]
    have hb : ((bytesD r).length + 1) * 2 ≤ 140737488355328 := by
      rw [bytesD_length]; simp only [List.length_cons] at hl; omega
    repeat (first | (with_reducible first | refine AW.seq ?_ | refine AW.block ?_ | refine AW.skip ?_ | refine AW.ret ?_ | refine AW.exit ?_ | refine AW.reg hT ?_) | ((with_reducible refine AW.cond_true ?_ ?_); · rfl) | ((with_reducible refine AW.cond_false ?_ ?_); · rfl) | simp (maxSteps := 3000000) (maxDischargeDepth := 12) only [seval,push_cast,appendX,Try.results30,ha,hb])
    refine ⟨.inr ⟨σ.n, Nat.le_refl _, by simp, Heap.get_set ?_⟩, ((Ext.refl _ _).push _).set (.inl (Nat.le_refl _)) _⟩
    rw [Heap.n_push]; omega
theorem wown0_ok (σ : Heap) (a b k : Int) (l : List Int) (hl : l.length ≤ 1000000) : ACalls Try.prog 16 [.agg [.sc (.int .i64 a), .sc (.int .i64 b), .sc (.int .i64 k), .imm (bytesD l)]] σ (fun x σ' => x = .agg [.sc (.int .i64 a), .sc (.int .i64 b), .sc (.int .i64 k), .imm (bytesD l)] ∧ Ext [] σ σ') := by
  refine ACalls.code hT Try.func16 rfl ?_
  simp only [Try.ntmps16, List.length_cons, List.length_nil, Nat.reduceSub, Nat.reduceAdd, List.replicate, List.cons_append, List.nil_append]
  repeat (first | (with_reducible first | refine AW.seq ?_ | refine AW.block ?_ | refine AW.skip ?_ | refine AW.ret ?_ | refine AW.exit ?_ | refine AW.reg hT ?_) | ((with_reducible refine AW.cond_true ?_ ?_); · rfl) | ((with_reducible refine AW.cond_false ?_ ?_); · rfl) | simp (maxSteps := 3000000) (maxDischargeDepth := 12) only [seval,push_cast,appendX,Try.results16])
  refine AOpsL.call (first := []) (cap := []) hT rfl rfl rfl fn30 rfl (ACalls.mono (wclone0_ok _ l hl) ?_)
  rintro x σ' ⟨rfl, hx⟩
  repeat (first | (with_reducible first | refine AW.seq ?_ | refine AW.block ?_ | refine AW.skip ?_ | refine AW.ret ?_ | refine AW.exit ?_ | refine AW.reg hT ?_) | ((with_reducible refine AW.cond_true ?_ ?_); · rfl) | ((with_reducible refine AW.cond_false ?_ ?_); · rfl) | simp (maxSteps := 3000000) (maxDischargeDepth := 12) only [seval,push_cast,appendX,Try.results16,hx.2,hx.ltT,hx.leT])
  repeat (first | exact Ext.refl _ _ | assumption | refine Ext.push ?_ _ | ((refine Ext.set ?_ ?_ _); rotate_left; · (simp (maxSteps := 3000000) (maxDischargeDepth := 12) only [push_cast, appendX, Nat.reduceAdd, Nat.reduceEqDiff, Nat.reduceLT, Nat.reduceLeDiff, reduceIte, reduceCtorEq, hx.2, hx.ltT, hx.leT])) | ((refine Ext.then1 (by assumption) ?_ ?_); rotate_left; · (intro p hp _; first | assumption | exact List.mem_cons_of_mem _ hp | (cases hp; done) | (simp at hp; subst hp; simp))))
theorem wnode0_ok (σ : Heap) (n : Int) : ACalls Try.prog 29 [.sc (.int .i64 n)] σ (fun x σ' => x = .sc (.bool (decide (0 ≤ n ∧ n < 16))) ∧ σ' = σ) := by
  refine ACalls.code hT Try.func29 rfl ?_
  simp only [Try.ntmps29, List.length_cons, List.length_nil, Nat.reduceSub, Nat.reduceAdd, List.replicate, List.cons_append, List.nil_append]
  by_cases h0 : 0 ≤ n
  · have hd : decide (0 ≤ n) = true := by simpa using h0
    repeat (first | (with_reducible first | refine AW.seq ?_ | refine AW.block ?_ | refine AW.skip ?_ | refine AW.ret ?_ | refine AW.exit ?_ | refine AW.reg hT ?_) | ((with_reducible refine AW.cond_true ?_ ?_); · rfl) | ((with_reducible refine AW.cond_false ?_ ?_); · rfl) | simp (maxSteps := 3000000) (maxDischargeDepth := 12) only [seval,push_cast,appendX,Try.results29,hd])
    simp [h0]
  · have hd : decide (0 ≤ n) = false := by simpa using h0
    repeat (first | (with_reducible first | refine AW.seq ?_ | refine AW.block ?_ | refine AW.skip ?_ | refine AW.ret ?_ | refine AW.exit ?_ | refine AW.reg hT ?_) | ((with_reducible refine AW.cond_true ?_ ?_); · rfl) | ((with_reducible refine AW.cond_false ?_ ?_); · rfl) | simp (maxSteps := 3000000) (maxDischargeDepth := 12) only [seval,push_cast,appendX,Try.results29,hd])
    simp [h0]
theorem wmay0_ok (σ : Heap) (a b k : Int) (l : List Int) : ACalls Try.prog 15 [.agg [.sc (.int .i64 a), .sc (.int .i64 b), .sc (.int .i64 k), .imm (bytesD l)]] σ (fun x σ' => x = .sc (.bool (decide ((0 ≤ a ∧ a < 16) ∧ (0 ≤ b ∧ b < 16) ∧ a ≠ b ∧ (k = 0 ∨ k = 1) ∧ l.length ≤ 8192))) ∧ Ext [] σ σ') := by
  refine ACalls.code hT Try.func15 rfl ?_
  simp only [Try.ntmps15, List.length_cons, List.length_nil, Nat.reduceSub, Nat.reduceAdd, List.replicate, List.cons_append, List.nil_append]
  repeat (first | (with_reducible first | refine AW.seq ?_ | refine AW.block ?_ | refine AW.skip ?_ | refine AW.ret ?_ | refine AW.exit ?_ | refine AW.reg hT ?_) | ((with_reducible refine AW.cond_true ?_ ?_); · rfl) | ((with_reducible refine AW.cond_false ?_ ?_); · rfl) | simp (maxSteps := 3000000) (maxDischargeDepth := 12) only [seval,push_cast,appendX,Try.results15])
  refine AOpsL.call (first := []) (cap := []) hT rfl rfl rfl fn29 rfl (ACalls.mono (wnode0_ok _ a) ?_)
  rintro x σ' ⟨rfl, rfl⟩
  by_cases h1 : 0 ≤ a ∧ a < 16
  · have d1 : decide (0 ≤ a ∧ a < 16) = true := by simpa using h1
    rw [d1]
    repeat (first | (with_reducible first | refine AW.seq ?_ | refine AW.block ?_ | refine AW.skip ?_ | refine AW.ret ?_ | refine AW.exit ?_ | refine AW.reg hT ?_) | ((with_reducible refine AW.cond_true ?_ ?_); · rfl) | ((with_reducible refine AW.cond_false ?_ ?_); · rfl) | simp (maxSteps := 3000000) (maxDischargeDepth := 12) only [seval,push_cast,appendX,Try.results15])
    refine AOpsL.call (first := []) (cap := []) hT rfl rfl rfl fn29 rfl (ACalls.mono (wnode0_ok _ b) ?_)
    rintro x σ' ⟨rfl, rfl⟩
    by_cases h2 : 0 ≤ b ∧ b < 16
    · have d2 : decide (0 ≤ b ∧ b < 16) = true := by simpa using h2
      rw [d2]
      by_cases h3 : a = b
      · have d3 : (a == b) = true := by simpa using h3
        repeat (first | (with_reducible first | refine AW.seq ?_ | refine AW.block ?_ | refine AW.skip ?_ | refine AW.ret ?_ | refine AW.exit ?_ | refine AW.reg hT ?_) | ((with_reducible refine AW.cond_true ?_ ?_); · rfl) | ((with_reducible refine AW.cond_false ?_ ?_); · rfl) | simp (maxSteps := 3000000) (maxDischargeDepth := 12) only [seval,push_cast,appendX,Try.results15,d3])
        refine ⟨by simp [bytesD_length, h1, *] <;> omega, ?_⟩
        repeat (first | exact Ext.refl _ _ | assumption | refine Ext.push ?_ _ | ((refine Ext.set ?_ ?_ _); rotate_left; · (simp (maxSteps := 3000000) (maxDischargeDepth := 12) only [push_cast, appendX, Nat.reduceAdd, Nat.reduceEqDiff, Nat.reduceLT, Nat.reduceLeDiff, reduceIte, reduceCtorEq])) | ((refine Ext.then1 (by assumption) ?_ ?_); rotate_left; · (intro p hp _; first | assumption | exact List.mem_cons_of_mem _ hp | (cases hp; done) | (simp at hp; subst hp; simp))))
      · have d3 : (a == b) = false := by simpa using h3
        by_cases h4 : k = 0
        · have d4 : (k == 0) = true := by simpa using h4
          repeat (first | (with_reducible first | refine AW.seq ?_ | refine AW.block ?_ | refine AW.skip ?_ | refine AW.ret ?_ | refine AW.exit ?_ | refine AW.reg hT ?_) | ((with_reducible refine AW.cond_true ?_ ?_); · rfl) | ((with_reducible refine AW.cond_false ?_ ?_); · rfl) | simp (maxSteps := 3000000) (maxDischargeDepth := 12) only [seval,push_cast,appendX,Try.results15,d3,d4])
          refine ⟨by simp [bytesD_length, h1, *] <;> omega, ?_⟩
          repeat (first | exact Ext.refl _ _ | assumption | refine Ext.push ?_ _ | ((refine Ext.set ?_ ?_ _); rotate_left; · (simp (maxSteps := 3000000) (maxDischargeDepth := 12) only [push_cast, appendX, Nat.reduceAdd, Nat.reduceEqDiff, Nat.reduceLT, Nat.reduceLeDiff, reduceIte, reduceCtorEq])) | ((refine Ext.then1 (by assumption) ?_ ?_); rotate_left; · (intro p hp _; first | assumption | exact List.mem_cons_of_mem _ hp | (cases hp; done) | (simp at hp; subst hp; simp))))
        · have d4 : (k == 0) = false := by simpa using h4
          by_cases h5 : k = 1
          · have d5 : (k == 1) = true := by simpa using h5
            repeat (first | (with_reducible first | refine AW.seq ?_ | refine AW.block ?_ | refine AW.skip ?_ | refine AW.ret ?_ | refine AW.exit ?_ | refine AW.reg hT ?_) | ((with_reducible refine AW.cond_true ?_ ?_); · rfl) | ((with_reducible refine AW.cond_false ?_ ?_); · rfl) | simp (maxSteps := 3000000) (maxDischargeDepth := 12) only [seval,push_cast,appendX,Try.results15,d3,d4,d5])
            refine ⟨by simp [bytesD_length, h1, *] <;> omega, ?_⟩
            repeat (first | exact Ext.refl _ _ | assumption | refine Ext.push ?_ _ | ((refine Ext.set ?_ ?_ _); rotate_left; · (simp (maxSteps := 3000000) (maxDischargeDepth := 12) only [push_cast, appendX, Nat.reduceAdd, Nat.reduceEqDiff, Nat.reduceLT, Nat.reduceLeDiff, reduceIte, reduceCtorEq])) | ((refine Ext.then1 (by assumption) ?_ ?_); rotate_left; · (intro p hp _; first | assumption | exact List.mem_cons_of_mem _ hp | (cases hp; done) | (simp at hp; subst hp; simp))))
          · have d5 : (k == 1) = false := by simpa using h5
            repeat (first | (with_reducible first | refine AW.seq ?_ | refine AW.block ?_ | refine AW.skip ?_ | refine AW.ret ?_ | refine AW.exit ?_ | refine AW.reg hT ?_) | ((with_reducible refine AW.cond_true ?_ ?_); · rfl) | ((with_reducible refine AW.cond_false ?_ ?_); · rfl) | simp (maxSteps := 3000000) (maxDischargeDepth := 12) only [seval,push_cast,appendX,Try.results15,d3,d4,d5])
            refine ⟨by simp [bytesD_length, h1, *] <;> omega, ?_⟩
            repeat (first | exact Ext.refl _ _ | assumption | refine Ext.push ?_ _ | ((refine Ext.set ?_ ?_ _); rotate_left; · (simp (maxSteps := 3000000) (maxDischargeDepth := 12) only [push_cast, appendX, Nat.reduceAdd, Nat.reduceEqDiff, Nat.reduceLT, Nat.reduceLeDiff, reduceIte, reduceCtorEq])) | ((refine Ext.then1 (by assumption) ?_ ?_); rotate_left; · (intro p hp _; first | assumption | exact List.mem_cons_of_mem _ hp | (cases hp; done) | (simp at hp; subst hp; simp))))
    · have d2 : decide (0 ≤ b ∧ b < 16) = false := by simpa using h2
      rw [d2]
      repeat (first | (with_reducible first | refine AW.seq ?_ | refine AW.block ?_ | refine AW.skip ?_ | refine AW.ret ?_ | refine AW.exit ?_ | refine AW.reg hT ?_) | ((with_reducible refine AW.cond_true ?_ ?_); · rfl) | ((with_reducible refine AW.cond_false ?_ ?_); · rfl) | simp (maxSteps := 3000000) (maxDischargeDepth := 12) only [seval,push_cast,appendX,Try.results15])
      refine ⟨by simp [bytesD_length, h1, *] <;> omega, ?_⟩
      repeat (first | exact Ext.refl _ _ | assumption | refine Ext.push ?_ _ | ((refine Ext.set ?_ ?_ _); rotate_left; · (simp (maxSteps := 3000000) (maxDischargeDepth := 12) only [push_cast, appendX, Nat.reduceAdd, Nat.reduceEqDiff, Nat.reduceLT, Nat.reduceLeDiff, reduceIte, reduceCtorEq])) | ((refine Ext.then1 (by assumption) ?_ ?_); rotate_left; · (intro p hp _; first | assumption | exact List.mem_cons_of_mem _ hp | (cases hp; done) | (simp at hp; subst hp; simp))))
  · have d1 : decide (0 ≤ a ∧ a < 16) = false := by simpa using h1
    rw [d1]
    repeat (first | (with_reducible first | refine AW.seq ?_ | refine AW.block ?_ | refine AW.skip ?_ | refine AW.ret ?_ | refine AW.exit ?_ | refine AW.reg hT ?_) | ((with_reducible refine AW.cond_true ?_ ?_); · rfl) | ((with_reducible refine AW.cond_false ?_ ?_); · rfl) | simp (maxSteps := 3000000) (maxDischargeDepth := 12) only [seval,push_cast,appendX,Try.results15])
    refine ⟨by simp [bytesD_length, h1, *] <;> omega, ?_⟩
    repeat (first | exact Ext.refl _ _ | assumption | refine Ext.push ?_ _ | ((refine Ext.set ?_ ?_ _); rotate_left; · (simp (maxSteps := 3000000) (maxDischargeDepth := 12) only [push_cast, appendX, Nat.reduceAdd, Nat.reduceEqDiff, Nat.reduceLT, Nat.reduceLeDiff, reduceIte, reduceCtorEq])) | ((refine Ext.then1 (by assumption) ?_ ?_); rotate_left; · (intro p hp _; first | assumption | exact List.mem_cons_of_mem _ hp | (cases hp; done) | (simp at hp; subst hp; simp))))
structure Wi where
  room : Int
  l : List Nt
  lost : Int
def Wire (σ : Heap) (fp : List Nat) (p : Nat) (w : Wi) : Prop := ∃ d, fp = p :: tOf d ∧ σ.get p = some (WObj w.room d w.lost) ∧ Hold σ d 29 (w.l.map eN)
def Gw (σ σ' : Heap) (fp fp' : List Nat) : Prop := Ext fp σ σ' ∧ ∀ q, q < σ.n → q ∈ fp' → q ∈ fp
theorem Gw.refl (σ : Heap) (fp : List Nat) : Gw σ σ fp fp := ⟨Ext.refl _ _, fun _ _ h => h⟩
theorem Gw.trans {a b c : Heap} {x y z : List Nat} (h : Gw a b x y) (k : Gw b c y z) : Gw a c x z := ⟨h.1.then k.1 (fun p hp hl => h.2 p hl hp), fun q hq hz => h.2 q hq (k.2 q (Nat.lt_of_lt_of_le hq h.1.1) hz)⟩
def mayN (x : Nt) : Prop := (0 ≤ x.f0 ∧ x.f0 < 16) ∧ (0 ≤ x.f1 ∧ x.f1 < 16) ∧ x.f0 ≠ x.f1 ∧ (x.f2 = 0 ∨ x.f2 = 1) ∧ x.f3.length ≤ 8192
instance (x : Nt) : Decidable (mayN x) := by unfold mayN; infer_instance
def Wi.send (w : Wi) (x : Nt) : Wi × Int := if mayN x then (if w.room ≤ w.l.length then ({ w with lost := w.lost + 1 }, 7) else ({ w with l := w.l ++ [x] }, 0)) else (w, 2)
structure Wi.Ok (w : Wi) : Prop where
  room : 0 < w.room
  len : w.l.length ≤ 1000000
  lost0 : 0 ≤ w.lost
  lost : w.lost ≤ 1000000
  bytes : ∀ x ∈ w.l, x.f3.length ≤ 8192
theorem wire_set {σ : Heap} {p : Nat} {d : DV} {w : Wi} {o : AObj} (hp : σ.get p = some o) (ho : o.e = 54) (h : Hold σ d 29 (w.l.map eN)) : Wire (σ.set p (WObj w.room d w.lost)) (p :: tOf d) p w := by
  refine ⟨d, rfl, Heap.get_set (Heap.lt hp), h.frame (X := [p]) ((Ext.refl _ _).set (.inr (by simp)) _) (fun q hq hqp => ?_)⟩
  simp at hqp; subst hqp; exact h.ne hp (by simp [ho]) hq
theorem tN (σ : Heap) {d : DV} {l : List Nt} (h : Hold σ d 29 (l.map eN)) : lenD T 52 d = some (l.length : Int) := by
  have := h.len (T := T) (ty := 52) rfl
  rwa [List.length_map] at this
theorem wsend0_ok (σ : Heap) {fp : List Nat} {p : Nat} {w : Wi} (x : Nt) (hw : Wire σ fp p w) (hk : w.Ok) : ACalls Try.prog 5 [.ptr p 0 0 1, .agg (eN x)] σ (fun y σ' => y = .sc (.int .i64 (w.send x).2) ∧ ∃ fp', Wire σ' fp' p (w.send x).1 ∧ Gw σ σ' fp fp') := by
  obtain ⟨d, rfl, hp, hh⟩ := hw
  have hlen := tN σ hh
  have hlt := Heap.lt hp
  obtain ⟨a, b, k, bs⟩ := x
  have hroom : decide (0 < w.room) = true := by simpa using hk.room
  refine ACalls.code hT Try.func5 rfl ?_
  simp only [Try.ntmps5, List.length_cons, List.length_nil, Nat.reduceSub, Nat.reduceAdd, List.replicate, List.cons_append, List.nil_append]
  simp only [eN, eNt]
  repeat (first | (with_reducible first | refine AW.seq ?_ | refine AW.block ?_ | refine AW.skip ?_ | refine AW.ret ?_ | refine AW.exit ?_ | refine AW.reg hT ?_) | ((with_reducible refine AW.cond_true ?_ ?_); · rfl) | ((with_reducible refine AW.cond_false ?_ ?_); · rfl) | simp (maxSteps := 3000000) (maxDischargeDepth := 12) only [seval,push_cast,appendX,Try.results5])
  refine AOpsL.call (first := []) (cap := []) hT rfl rfl rfl fn14 rfl (ACalls.mono (wgood0_ok (room := w.room) (lost := w.lost) (d := d) _ (by simp (maxSteps := 3000000) (maxDischargeDepth := 12) only [push_cast, appendX, Nat.reduceAdd, Nat.reduceEqDiff, Nat.reduceLT, Nat.reduceLeDiff, reduceIte, reduceCtorEq, hp, Heap.lt hp])) ?_)
  rintro y σ' ⟨rfl, rfl⟩
  rw [hroom]
  repeat (first | (with_reducible first | refine AW.seq ?_ | refine AW.block ?_ | refine AW.skip ?_ | refine AW.ret ?_ | refine AW.exit ?_ | refine AW.reg hT ?_) | ((with_reducible refine AW.cond_true ?_ ?_); · rfl) | ((with_reducible refine AW.cond_false ?_ ?_); · rfl) | simp (maxSteps := 3000000) (maxDischargeDepth := 12) only [seval,push_cast,appendX,Try.results5])
  refine AOpsL.call (first := []) (cap := []) hT rfl rfl rfl fn15 rfl (ACalls.mono (wmay0_ok _ a b k bs) ?_)
  rintro y σ' ⟨rfl, hx⟩
  by_cases hm : mayN ⟨a, b, k, bs⟩
  · have hm' : decide ((0 ≤ a ∧ a < 16) ∧ (0 ≤ b ∧ b < 16) ∧ a ≠ b ∧ (k = 0 ∨ k = 1) ∧ bs.length ≤ 8192) = true := by simpa [mayN] using hm
    rw [hm']
    repeat (first | (with_reducible first | refine AW.seq ?_ | refine AW.block ?_ | refine AW.skip ?_ | refine AW.ret ?_ | refine AW.exit ?_ | refine AW.reg hT ?_) | ((with_reducible show AW _ (.region 5 _ _) _ _ _); (with_reducible refine AW.drawn (id := 5) hT [0,1,2,3,4,5,6,7,8,9,10] [[],[0],[0,1],[0,1,2],[0,1,2,3],[],[5],[5,6],[5,6,7],[0,1,2,3,4,5,6,7,8],[0,1,2,3,4,5,6,7,8,9]] mix (by kernel_rfl) ?_)) | ((with_reducible show DLeft _ _ _ _ (_ :: _) _ _ _ _); (with_reducible apply DLeft.step hT); (case hoi => ((simp only [List.getElem?_toArray,List.getElem?_cons_zero,List.getElem?_cons_succ]); with_reducible rfl)); (case hg => rfl); (case hk => rfl); (case hr => ((try simp (maxSteps := 3000000) (maxDischargeDepth := 12) only [seval,push_cast,appendX,Try.results5,hp,Heap.lt hp,hx.2,hx.ltT,hx.leT,WObj,↓hlen]); with_reducible rfl))) | ((with_reducible refine AW.cond_true ?_ ?_); · rfl) | ((with_reducible refine AW.cond_false ?_ ?_); · rfl) | simp (maxSteps := 3000000) (maxDischargeDepth := 12) only [seval,push_cast,appendX,Try.results5,hp,Heap.lt hp,hx.2,hx.ltT,hx.leT,WObj,↓hlen])
    by_cases hf : w.room ≤ (w.l.length : Int)
    · have hf' : decide (w.room ≤ (w.l.length : Int)) = true := by simpa using hf
      repeat (first | (with_reducible first | refine AW.seq ?_ | refine AW.block ?_ | refine AW.skip ?_ | refine AW.ret ?_ | refine AW.exit ?_ | refine AW.reg hT ?_) | ((with_reducible refine AW.cond_true ?_ ?_); · rfl) | ((with_reducible refine AW.cond_false ?_ ?_); · rfl) | simp (maxSteps := 3000000) (maxDischargeDepth := 12) only [seval,push_cast,appendX,Try.results5,hp,Heap.lt hp,hx.2,hx.ltT,hx.leT,WObj,hf'])
      have hw := wrap_i64 (n := w.lost + 1) (by have := hk.lost0; omega) (by have := hk.lost; omega)
      rw [hw]
      refine ⟨by simp [Wi.send, hm, hf], p :: tOf d, ⟨d, rfl, ?_, ?_⟩, ?_, fun q _ h => h⟩
      · simp (maxSteps := 3000000) (maxDischargeDepth := 12) only [push_cast, appendX, Nat.reduceAdd, Nat.reduceEqDiff, Nat.reduceLT, Nat.reduceLeDiff, reduceIte, reduceCtorEq, hp, Heap.lt hp, hx.2, hx.ltT, hx.leT, WObj]
        simp [Wi.send, hm, hf]
      · have : (w.send ⟨a, b, k, bs⟩).1.l = w.l := by simp [Wi.send, hm, hf]
        rw [this]
        refine (hh.frame (X := []) (σ' := σ') ?_ (by simp)).frame (X := [p]) ?_ (fun q hq hqp => ?_)
        · repeat (first | exact Ext.refl _ _ | assumption | refine Ext.push ?_ _ | ((refine Ext.set ?_ ?_ _); rotate_left; · (simp (maxSteps := 3000000) (maxDischargeDepth := 12) only [push_cast, appendX, Nat.reduceAdd, Nat.reduceEqDiff, Nat.reduceLT, Nat.reduceLeDiff, reduceIte, reduceCtorEq])) | ((refine Ext.then1 (by assumption) ?_ ?_); rotate_left; · (intro p hp _; first | assumption | exact List.mem_cons_of_mem _ hp | (cases hp; done) | (simp at hp; subst hp; simp))))
        · repeat (first | exact Ext.refl _ _ | assumption | refine Ext.push ?_ _ | ((refine Ext.set ?_ ?_ _); rotate_left; · (simp (maxSteps := 3000000) (maxDischargeDepth := 12) only [push_cast, appendX, Nat.reduceAdd, Nat.reduceEqDiff, Nat.reduceLT, Nat.reduceLeDiff, reduceIte, reduceCtorEq])) | ((refine Ext.then1 (by assumption) ?_ ?_); rotate_left; · (intro p hp _; first | assumption | exact List.mem_cons_of_mem _ hp | (cases hp; done) | (simp at hp; subst hp; simp))))
        · simp at hqp; subst hqp; exact hh.ne hp (by simp [WObj]) hq
      · repeat (first | exact Ext.refl _ _ | assumption | refine Ext.push ?_ _ | ((refine Ext.set ?_ ?_ _); rotate_left; · (simp (maxSteps := 3000000) (maxDischargeDepth := 12) only [push_cast, appendX, Nat.reduceAdd, Nat.reduceEqDiff, Nat.reduceLT, Nat.reduceLeDiff, reduceIte, reduceCtorEq])) | ((refine Ext.then1 (by assumption) ?_ ?_); rotate_left; · (intro p hp _; first | assumption | exact List.mem_cons_of_mem _ hp | (cases hp; done) | (simp at hp; subst hp; simp))))
    · have hf' : decide (w.room ≤ (w.l.length : Int)) = false := by simpa using hf
      have hbs : bs.length ≤ 1000000 := by have := hm.2.2.2.2; simp at this; omega
      have hne := hh.ne hp (by simp [WObj])
      repeat (first | (with_reducible first | refine AW.seq ?_ | refine AW.block ?_ | refine AW.skip ?_ | refine AW.ret ?_ | refine AW.exit ?_ | refine AW.reg hT ?_) | ((with_reducible show AW _ (.region 8 _ _) _ _ _); (with_reducible refine AW.drawn (id := 8) hT [0,1,2,3,4,5,6,7,8,9,10,11] [[],[],[1],[1,2],[1,2,3],[],[5],[5,6],[1,2,3,4,5,6,7],[0,1,2,3,4,5,6,7,8],[0,1,2,3,4,5,6,7,8,9],[0,1,2,3,4,5,6,7,8,9,10]] mix (by kernel_rfl) ?_)) | ((with_reducible show DLeft _ _ _ _ (_ :: _) _ _ _ _); (with_reducible apply DLeft.step hT); (case hoi => ((simp only [List.getElem?_toArray,List.getElem?_cons_zero,List.getElem?_cons_succ]); with_reducible rfl)); (case hg => rfl); (case hk => rfl); (case hr => ((try simp (maxSteps := 3000000) (maxDischargeDepth := 12) only [seval,push_cast,appendX,Try.results5,hp,Heap.lt hp,hx.2,hx.ltT,hx.leT,WObj,hf']); with_reducible rfl))) | ((with_reducible refine AW.cond_true ?_ ?_); · rfl) | ((with_reducible refine AW.cond_false ?_ ?_); · rfl) | simp (maxSteps := 3000000) (maxDischargeDepth := 12) only [seval,push_cast,appendX,Try.results5,hp,Heap.lt hp,hx.2,hx.ltT,hx.leT,WObj,hf'])
      ((apply DLeft.call (f := 16) (first := []) (cap := [])); (case hoi => ((simp only [List.getElem?_toArray, List.getElem?_cons_zero, List.getElem?_cons_succ]); with_reducible rfl)); (case hg => rfl); (case ho => rfl); (case hc => rfl); (case hf => exact fn16); (case has => rfl)); refine ACalls.mono (wown0_ok _ a b k bs hbs) ?_
      rintro y σ2 ⟨rfl, hx2⟩
      repeat (first | (with_reducible first | refine AW.seq ?_ | refine AW.block ?_ | refine AW.skip ?_ | refine AW.ret ?_ | refine AW.exit ?_ | refine AW.reg hT ?_) | ((with_reducible show AW _ (.region 8 _ _) _ _ _); (with_reducible refine AW.drawn (id := 8) hT [0,1,2,3,4,5,6,7,8,9,10,11] [[],[],[1],[1,2],[1,2,3],[],[5],[5,6],[1,2,3,4,5,6,7],[0,1,2,3,4,5,6,7,8],[0,1,2,3,4,5,6,7,8,9],[0,1,2,3,4,5,6,7,8,9,10]] mix (by kernel_rfl) ?_)) | ((with_reducible show DLeft _ _ _ _ (_ :: _) _ _ _ _); (with_reducible apply DLeft.step hT); (case hoi => ((simp only [List.getElem?_toArray,List.getElem?_cons_zero,List.getElem?_cons_succ]); with_reducible rfl)); (case hg => rfl); (case hk => rfl); (case hr => ((try simp (maxSteps := 3000000) (maxDischargeDepth := 12) only [seval,push_cast,appendX,Try.results5,hp,Heap.lt hp,hx.2,hx.ltT,hx.leT,hx2.2,hx2.ltT,hx2.leT,WObj,hf']); with_reducible rfl))) | ((with_reducible refine AW.cond_true ?_ ?_); · rfl) | ((with_reducible refine AW.cond_false ?_ ?_); · rfl) | simp (maxSteps := 3000000) (maxDischargeDepth := 12) only [seval,push_cast,appendX,Try.results5,hp,Heap.lt hp,hx.2,hx.ltT,hx.leT,hx2.2,hx2.ltT,hx2.leT,WObj,hf'])
      have hall : ([eN ⟨a, b, k, bs⟩].all fun el => el.length == 4) = true := rfl
      obtain ⟨d', σ3, happ, hh', hext, hfp⟩ := Hold.append (T := T) (ty := 52) (x := .sl σ2.n 0 1 1) (xs := [eN ⟨a, b, k, bs⟩]) (hh.frame (X := []) (σ' := σ2.push ⟨[eN ⟨a, b, k, bs⟩], 29, true⟩) (by repeat (first | exact Ext.refl _ _ | assumption | refine Ext.push ?_ _ | ((refine Ext.set ?_ ?_ _); rotate_left; · (simp (maxSteps := 3000000) (maxDischargeDepth := 12) only [push_cast, appendX, Nat.reduceAdd, Nat.reduceEqDiff, Nat.reduceLT, Nat.reduceLeDiff, reduceIte, reduceCtorEq])) | ((refine Ext.then1 (by assumption) ?_ ?_); rotate_left; · (intro p hp _; first | assumption | exact List.mem_cons_of_mem _ hp | (cases hp; done) | (simp at hp; subst hp; simp))))) (by simp)) rfl rfl (by decide) (by simp (maxSteps := 3000000) (maxDischargeDepth := 12) only [seval,push_cast,appendX,sliceD]) (by simp) hall (by have := hk.len; simp; omega)
      have hcl := hh'.cells
      have hlf := hh'.leaf
      simp only [eN, eNt] at happ hext
      repeat (first | (with_reducible first | refine AW.seq ?_ | refine AW.block ?_ | refine AW.skip ?_ | refine AW.ret ?_ | refine AW.exit ?_ | refine AW.reg hT ?_) | ((with_reducible show AW _ (.region 8 _ _) _ _ _); (with_reducible refine AW.drawn (id := 8) hT [0,1,2,3,4,5,6,7,8,9,10,11] [[],[],[1],[1,2],[1,2,3],[],[5],[5,6],[1,2,3,4,5,6,7],[0,1,2,3,4,5,6,7,8],[0,1,2,3,4,5,6,7,8,9],[0,1,2,3,4,5,6,7,8,9,10]] mix (by kernel_rfl) ?_)) | ((with_reducible show DLeft _ _ _ _ (_ :: _) _ _ _ _); (with_reducible apply DLeft.step hT); (case hoi => ((simp only [List.getElem?_toArray,List.getElem?_cons_zero,List.getElem?_cons_succ]); with_reducible rfl)); (case hg => rfl); (case hk => rfl); (case hr => ((try simp (maxSteps := 3000000) (maxDischargeDepth := 12) only [seval,push_cast,appendX,Try.results5,hp,Heap.lt hp,hx.2,hx.ltT,hx.leT,hx2.2,hx2.ltT,hx2.leT,hext.2,hext.ltT,hext.leT,WObj,hf',hne,↓happ,↓hcl,↓hlf]); with_reducible rfl))) | ((with_reducible refine AW.cond_true ?_ ?_); · rfl) | ((with_reducible refine AW.cond_false ?_ ?_); · rfl) | simp (maxSteps := 3000000) (maxDischargeDepth := 12) only [seval,push_cast,appendX,Try.results5,hp,Heap.lt hp,hx.2,hx.ltT,hx.leT,hx2.2,hx2.ltT,hx2.leT,hext.2,hext.ltT,hext.leT,WObj,hf',hne,↓happ,↓hcl,↓hlf])
      have hs : w.send ⟨a, b, k, bs⟩ = ({ w with l := w.l ++ [⟨a, b, k, bs⟩] }, 0) := by simp [Wi.send, hm, hf]
      rw [hs]
      refine ⟨rfl, p :: tOf d', wire_set (σ := σ3) (d := d') (w := { w with l := w.l ++ [⟨a, b, k, bs⟩] }) (o := WObj w.room d w.lost) (by simp (maxSteps := 3000000) (maxDischargeDepth := 12) only [push_cast, appendX, Nat.reduceAdd, Nat.reduceEqDiff, Nat.reduceLT, Nat.reduceLeDiff, reduceIte, reduceCtorEq, hp, Heap.lt hp, hx.2, hx.ltT, hx.leT, hx2.2, hx2.ltT, hx2.leT, hext.2, hext.ltT, hext.leT, hne]) (by simp [WObj]) (by simpa using hh'), ?_, fun q hq hm => ?_⟩
      · repeat (first | exact Ext.refl _ _ | assumption | refine Ext.push ?_ _ | ((refine Ext.set ?_ ?_ _); rotate_left; · (simp (maxSteps := 3000000) (maxDischargeDepth := 12) only [push_cast, appendX, Nat.reduceAdd, Nat.reduceEqDiff, Nat.reduceLT, Nat.reduceLeDiff, reduceIte, reduceCtorEq, hp, Heap.lt hp])) | ((refine Ext.then1 (by assumption) ?_ ?_); rotate_left; · (intro p hp _; first | assumption | exact List.mem_cons_of_mem _ hp | (cases hp; done) | (simp at hp; subst hp; simp))))
      · rcases List.mem_cons.1 hm with rfl | hm
        · exact List.mem_cons_self
        · refine List.mem_cons_of_mem _ (hfp q ?_ hm)
          have h1 := hx.1; have h2 := hx2.1; simp at h1 h2 ⊢; omega
  · have hm' : decide ((0 ≤ a ∧ a < 16) ∧ (0 ≤ b ∧ b < 16) ∧ a ≠ b ∧ (k = 0 ∨ k = 1) ∧ bs.length ≤ 8192) = false := by simpa [mayN] using hm
    rw [hm']
    repeat (first | (with_reducible first | refine AW.seq ?_ | refine AW.block ?_ | refine AW.skip ?_ | refine AW.ret ?_ | refine AW.exit ?_ | refine AW.reg hT ?_) | ((with_reducible refine AW.cond_true ?_ ?_); · rfl) | ((with_reducible refine AW.cond_false ?_ ?_); · rfl) | simp (maxSteps := 3000000) (maxDischargeDepth := 12) only [seval,push_cast,appendX,Try.results5,hp,Heap.lt hp,hx.2,hx.ltT,hx.leT,WObj,↓hlen])
    refine ⟨by simp [Wi.send, hm], p :: tOf d, ?_, ?_, fun q _ h => h⟩
    · have : (w.send ⟨a, b, k, bs⟩).1 = w := by simp [Wi.send, hm]
      rw [this]
      refine ⟨d, rfl, ?_, ?_⟩
      · simp (maxSteps := 3000000) (maxDischargeDepth := 12) only [push_cast, appendX, Nat.reduceAdd, Nat.reduceEqDiff, Nat.reduceLT, Nat.reduceLeDiff, reduceIte, reduceCtorEq, hp, Heap.lt hp, hx.2, hx.ltT, hx.leT]
      · exact hh.frame (X := []) (by repeat (first | exact Ext.refl _ _ | assumption | refine Ext.push ?_ _ | ((refine Ext.set ?_ ?_ _); rotate_left; · (simp (maxSteps := 3000000) (maxDischargeDepth := 12) only [push_cast, appendX, Nat.reduceAdd, Nat.reduceEqDiff, Nat.reduceLT, Nat.reduceLeDiff, reduceIte, reduceCtorEq])) | ((refine Ext.then1 (by assumption) ?_ ?_); rotate_left; · (intro p hp _; first | assumption | exact List.mem_cons_of_mem _ hp | (cases hp; done) | (simp at hp; subst hp; simp))))) (by simp)
    · repeat (first | exact Ext.refl _ _ | assumption | refine Ext.push ?_ _ | ((refine Ext.set ?_ ?_ _); rotate_left; · (simp (maxSteps := 3000000) (maxDischargeDepth := 12) only [push_cast, appendX, Nat.reduceAdd, Nat.reduceEqDiff, Nat.reduceLT, Nat.reduceLeDiff, reduceIte, reduceCtorEq])) | ((refine Ext.then1 (by assumption) ?_ ?_); rotate_left; · (intro p hp _; first | assumption | exact List.mem_cons_of_mem _ hp | (cases hp; done) | (simp at hp; subst hp; simp))))
theorem wdelete0_ok (σ : Heap) {t n m : Nat} {full : List (List DV)} (i : Nat) (hg : σ.get t = some ⟨full, 29, true⟩) (hm : full.length = m) (hnm : n ≤ m) (hi : i < n) (h4 : ∀ el ∈ full.take n, el.length = 4) (hb : n * 49 ≤ 140737488355328) :
    ACalls Try.prog 18 [.sl t 0 n m, .sc (.int .i64 i), .sc (.int .i64 ((i : Int) + 1))] σ (fun x σ' => x = .sl t 0 (n - 1) m ∧ ∃ full', σ'.get t = some ⟨full', 29, true⟩ ∧ full'.length = m ∧ full'.take (n - 1) = (full.take n).eraseIdx i ∧ Ext [t] σ σ') := by
  have hlt := Heap.lt hg
  have a1 : ((0 : Int) ≤ (i : Int)) = True := by simp
  have a2 : ((i : Int) ≤ (i : Int) + 1) = True := by simp; omega
  have a3 : ((i : Int) + 1 ≤ (n : Int)) = True := by simp; omega
  have a4 : ((i : Int) == (i : Int) + 1) = false := by simp; omega
  have a5 : ((i : Int) ≤ (n : Int)) = True := by simp; omega
  have a6 : ((i : Int) + 1).toNat = i + 1 := by omega
  have a7 : ((n : Int) - ((i : Int) + 1)).toNat = n - (i + 1) := by omega
  have a8 : ((0 : Int) ≤ (i : Int) + 1) = True := by simp; omega
  have a9 : ((n : Int) ≤ (n : Int)) = True := by simp
  refine ACalls.code hT Try.func18 rfl ?_
  simp only [Try.ntmps18, List.length_cons, List.length_nil, Nat.reduceSub, Nat.reduceAdd, List.replicate, List.cons_append, List.nil_append]
  repeat (first | (with_reducible first | refine AW.seq ?_ | refine AW.block ?_ | refine AW.skip ?_ | refine AW.ret ?_ | refine AW.exit ?_ | refine AW.reg hT ?_) | ((with_reducible show AW _ (.region 5 _ _) _ _ _); (with_reducible refine AW.drawn (id := 5) hT [0,1,2,3,4,5,6,7] [[],[],[0,1],[],[],[3,4],[0,1,2,3,4,5],[0,1,2,3,4,5,6]] mix (by kernel_rfl) ?_)) | ((with_reducible show DLeft _ _ _ _ (_ :: _) _ _ _ _); (with_reducible apply DLeft.step hT); (case hoi => ((simp only [List.getElem?_toArray,List.getElem?_cons_zero,List.getElem?_cons_succ]); with_reducible rfl)); (case hg => rfl); (case hk => rfl); (case hr => ((try simp (maxSteps := 3000000) (maxDischargeDepth := 12) only [seval,push_cast,appendX,Try.results18,hg,Heap.lt hg,hm,a1,a2,a3,a4,a5,a6,a7,a8,a9]); with_reducible rfl))) | ((with_reducible refine AW.cond_true ?_ ?_); · rfl) | ((with_reducible refine AW.cond_false ?_ ?_); · rfl) | simp (maxSteps := 3000000) (maxDischargeDepth := 12) only [seval,push_cast,appendX,Try.results18,hg,Heap.lt hg,hm,a1,a2,a3,a4,a5,a6,a7,a8,a9])
  have hq : ∃ full1, full1.length = m ∧ full1.take (n - 1) = (full.take n).eraseIdx i ∧ ∃ σ1, appendX T σ 52 (.sl t 0 i m) (.sl t (i + 1) (n - (i + 1)) m) = some (.sl t 0 (n - 1) m, σ1) ∧ σ1.get t = some ⟨full1, 29, true⟩ ∧ Ext [t] σ σ1 := by
    have hsl : sliceD σ (.sl t (i + 1) (n - (i + 1)) m) = some ((full.drop (i + 1)).take (n - (i + 1))) := by
      simp [sliceD, getO, hg, hm]; omega
    have hlen : ((full.drop (i + 1)).take (n - (i + 1))).length = n - (i + 1) := by simp; omega
    have hall : (((full.drop (i + 1)).take (n - (i + 1))).all fun el => el.length == 4) = true := by
      rw [List.all_eq_true]; intro el hel; rw [← List.drop_take] at hel; simpa using h4 el (List.mem_of_mem_drop hel)
    have hp : (0 : Nat) < 4 := by decide
    have hmi : ¬ i = m := by omega
    have er : (full.take n).eraseIdx i = full.take i ++ (full.drop (i + 1)).take (n - (i + 1)) := by
      rw [List.eraseIdx_eq_take_drop_succ, List.take_take, Nat.min_eq_left (by omega), List.drop_take]
    obtain ⟨xs, hxs⟩ : ∃ xs, xs = (full.drop (i + 1)).take (n - (i + 1)) := ⟨_, rfl⟩
    rw [← hxs] at hsl hlen hall er
    by_cases hn : n - (i + 1) = 0
    · have hni : n - 1 = i := by omega
      have hx0 : xs = [] := List.eq_nil_of_length_eq_zero (by omega)
      subst hx0
      refine ⟨full, hm, by rw [er, hni]; simp, σ, ?_, hg, Ext.refl _ _⟩
      rw [hni]
      simp (maxSteps := 3000000) (maxDischargeDepth := 12) only [seval,push_cast,appendX,hg,Heap.lt hg,hm,↓hsl,hmi]
    · have hn' : ¬ xs.length = 0 := by omega
      have hn1 : 0 < xs.length := by omega
      have him : i < m := by omega
      have hbb : (n - 1) * 49 ≤ 140737488355328 := by omega
      have hl1 : i + xs.length = n - 1 := by omega
      have hl2 : n - 1 + (m - (n - 1)) = m := by omega
      refine ⟨full.take i ++ xs ++ full.drop (i + xs.length), by simp; omega, ?_, σ.set t ⟨full.take i ++ xs ++ full.drop (i + xs.length), 29, true⟩, ?_, Heap.get_set hlt, (Ext.refl _ _).set (.inr (by simp)) _⟩
      · rw [er, List.take_append_of_le_length (by simp; omega), List.take_of_length_le (by simp; omega)]
      · simp (maxSteps := 3000000) (maxDischargeDepth := 12) only [seval,push_cast,appendX,hg,Heap.lt hg,hm,↓hsl,hmi,hall,hn',hn1,him,hbb,hl1,hl2]
  obtain ⟨full1, hm1, hf1, σ1, happ, hg1, hx1⟩ := hq
  have b1 : ((n - 1 : Nat) : Int) ≤ (n : Int) := by omega
  have b2 : ((n : Int) - ((n - 1 : Nat) : Int)).toNat = 1 := by omega
  have b3 : ((n : Int) ≤ ((n - 1 : Nat) : Int)) = False := by simp; omega
  have b4 : ((n : Int) ≤ (m : Int)) = True := by simp; omega
  have b5 : (0 : Int) ≤ ((n - 1 : Nat) : Int) := by omega
  have b6 : n - 1 + 1 ≤ m := by omega
  repeat (first | (with_reducible first | refine AW.seq ?_ | refine AW.block ?_ | refine AW.skip ?_ | refine AW.ret ?_ | refine AW.exit ?_ | refine AW.reg hT ?_) | ((with_reducible show AW _ (.region 5 _ _) _ _ _); (with_reducible refine AW.drawn (id := 5) hT [0,1,2,3,4,5,6,7] [[],[],[0,1],[],[],[3,4],[0,1,2,3,4,5],[0,1,2,3,4,5,6]] mix (by kernel_rfl) ?_)) | ((with_reducible show DLeft _ _ _ _ (_ :: _) _ _ _ _); (with_reducible apply DLeft.step hT); (case hoi => ((simp only [List.getElem?_toArray,List.getElem?_cons_zero,List.getElem?_cons_succ]); with_reducible rfl)); (case hg => rfl); (case hk => rfl); (case hr => ((try simp (maxSteps := 3000000) (maxDischargeDepth := 12) only [seval,push_cast,appendX,Try.results18,hg,Heap.lt hg,hg1,Heap.lt hg1,hm,hm1,a1,a2,a3,a4,a5,a6,a7,a8,a9,b1,b2,b3,b4,b5,b6,↓happ]); with_reducible rfl))) | ((with_reducible refine AW.cond_true ?_ ?_); · rfl) | ((with_reducible refine AW.cond_false ?_ ?_); · rfl) | simp (maxSteps := 3000000) (maxDischargeDepth := 12) only [seval,push_cast,appendX,Try.results18,hg,Heap.lt hg,hg1,Heap.lt hg1,hm,hm1,a1,a2,a3,a4,a5,a6,a7,a8,a9,b1,b2,b3,b4,b5,b6,↓happ])
  refine ⟨_, rfl, by simp; omega, ?_, ?_⟩
  · rw [List.append_assoc, List.take_append_of_le_length (by simp; omega), List.take_take, Nat.min_self, hf1]
  · repeat (first | exact Ext.refl _ _ | assumption | refine Ext.push ?_ _ | ((refine Ext.set ?_ ?_ _); rotate_left; · (simp (maxSteps := 3000000) (maxDischargeDepth := 12) only [push_cast, appendX, Nat.reduceAdd, Nat.reduceEqDiff, Nat.reduceLT, Nat.reduceLeDiff, reduceIte, reduceCtorEq, hg1, Heap.lt hg1])) | ((refine Ext.then1 (by assumption) ?_ ?_); rotate_left; · (intro p hp _; first | assumption | exact List.mem_cons_of_mem _ hp | (cases hp; done) | (simp at hp; subst hp; simp))))
theorem delete_hold (σ : Heap) {d : DV} {els : List (List DV)} (i : Nat) (hh : Hold σ d 29 els) (hi : i < els.length) (h4 : ∀ el ∈ els, el.length = 4) (hb : els.length * 49 ≤ 140737488355328) :
    ACalls Try.prog 18 [d, .sc (.int .i64 i), .sc (.int .i64 ((i : Int) + 1))] σ (fun x σ' => Hold σ' x 29 (els.eraseIdx i) ∧ tOf x = tOf d ∧ Ext (tOf d) σ σ') := by
  rcases hh with ⟨rfl, rfl⟩ | ⟨t, full, rfl, hg, hle, htk⟩
  · simp at hi
  · refine (wdelete0_ok σ i hg rfl hle hi (by rw [htk]; exact h4) hb).mono ?_
    rintro x σ' ⟨rfl, full', hg', hm', hf', hx⟩
    rw [htk] at hf'
    have hl : (els.eraseIdx i).length = els.length - 1 := by rw [List.length_eraseIdx, if_pos hi]
    refine ⟨.inr ⟨t, full', by rw [hl, hm'], hg', by rw [hl, hm']; omega, by rw [hl, hf']⟩, rfl, hx⟩
def zN : Nt := ⟨0, 0, 0, []⟩
def Wi.take (w : Wi) (i : Int) : Wi × Nt × Int := if 0 ≤ i ∧ i < (w.l.length : Int) then ({ w with l := w.l.eraseIdx i.toNat }, w.l.getD i.toNat zN, 0) else (w, zN, 8)
def Wi.twice (w : Wi) (i : Int) : Wi × Int := if 0 ≤ i ∧ i < (w.l.length : Int) then (if w.room ≤ (w.l.length : Int) then (w, 7) else ({ w with l := w.l ++ [w.l.getD i.toNat zN] }, 0)) else (w, 8)
theorem whas0_ok' (σ : Heap) {p : Nat} {room lost : Int} {d : DV} {l : List Nt} (i : Int) (hp : σ.get p = some (WObj room d lost)) (hh : Hold σ d 29 (l.map eN)) : ACalls Try.prog 17 [.ptr p 0 0 1, .sc (.int .i64 i)] σ (fun x σ' => x = .sc (.bool (decide (0 ≤ i ∧ i < (l.length : Int)))) ∧ σ' = σ) := whas0_ok σ i ⟨d, hp, hh⟩
theorem eN_eq (x : Nt) : eN x = [.sc (.int .i64 x.f0), .sc (.int .i64 x.f1), .sc (.int .i64 x.f2), .imm (bytesD x.f3)] := rfl
theorem wtake0_ok (σ : Heap) {fp : List Nat} {p : Nat} {w : Wi} (i : Int) (hi64 : True) (hw : Wire σ fp p w) (hk : w.Ok) : ACalls Try.prog 7 [.ptr p 0 0 1, .sc (.int .i64 i)] σ (fun y σ' => y = .tup [.agg (eN (w.take i).2.1), .sc (.int .i64 (w.take i).2.2)] ∧ ∃ fp', Wire σ' fp' p (w.take i).1 ∧ Gw σ σ' fp fp') := by
  obtain ⟨d, rfl, hp, hh⟩ := hw
  have hlt := Heap.lt hp
  have hroom : decide (0 < w.room) = true := by simpa using hk.room
  have hne := hh.ne hp (by simp [WObj])
  refine ACalls.tells ?_
  refine ACalls.code hT Try.func7 rfl ?_
  simp only [Try.ntmps7, List.length_cons, List.length_nil, Nat.reduceSub, Nat.reduceAdd, List.replicate, List.cons_append, List.nil_append]
  repeat (first | (with_reducible first | refine AW.seq ?_ | refine AW.block ?_ | refine AW.skip ?_ | refine AW.ret ?_ | refine AW.exit ?_ | refine AW.reg hT ?_) | ((with_reducible refine AW.cond_true ?_ ?_); · rfl) | ((with_reducible refine AW.cond_false ?_ ?_); · rfl) | simp (maxSteps := 3000000) (maxDischargeDepth := 12) only [seval,push_cast,appendX,Try.results7])
  refine AOpsL.call (first := []) (cap := []) hT rfl rfl rfl fn14 rfl (ACalls.mono (wgood0_ok (room := w.room) (lost := w.lost) (d := d) _ (by simp (maxSteps := 3000000) (maxDischargeDepth := 12) only [push_cast, appendX, Nat.reduceAdd, Nat.reduceEqDiff, Nat.reduceLT, Nat.reduceLeDiff, reduceIte, reduceCtorEq, hp, Heap.lt hp])) ?_)
  rintro y σ' ⟨rfl, rfl⟩
  rw [hroom]
  repeat (first | (with_reducible first | refine AW.seq ?_ | refine AW.block ?_ | refine AW.skip ?_ | refine AW.ret ?_ | refine AW.exit ?_ | refine AW.reg hT ?_) | ((with_reducible refine AW.cond_true ?_ ?_); · rfl) | ((with_reducible refine AW.cond_false ?_ ?_); · rfl) | simp (maxSteps := 3000000) (maxDischargeDepth := 12) only [seval,push_cast,appendX,Try.results7])
  refine AOpsL.call (first := []) (cap := []) hT rfl rfl rfl fn17 rfl (ACalls.mono (whas0_ok' (room := w.room) (lost := w.lost) (d := d) (l := w.l) _ i (by simp (maxSteps := 3000000) (maxDischargeDepth := 12) only [push_cast, appendX, Nat.reduceAdd, Nat.reduceEqDiff, Nat.reduceLT, Nat.reduceLeDiff, reduceIte, reduceCtorEq, hp, Heap.lt hp]) (hh.frame (X := []) (by repeat (first | exact Ext.refl _ _ | assumption | refine Ext.push ?_ _ | ((refine Ext.set ?_ ?_ _); rotate_left; · (simp (maxSteps := 3000000) (maxDischargeDepth := 12) only [push_cast, appendX, Nat.reduceAdd, Nat.reduceEqDiff, Nat.reduceLT, Nat.reduceLeDiff, reduceIte, reduceCtorEq])) | ((refine Ext.then1 (by assumption) ?_ ?_); rotate_left; · (intro p hp _; first | assumption | exact List.mem_cons_of_mem _ hp | (cases hp; done) | (simp at hp; subst hp; simp))))) (by simp))) ?_)
  rintro y σ' ⟨rfl, rfl⟩
  by_cases hi : 0 ≤ i ∧ i < (w.l.length : Int)
  · have hi' : decide (0 ≤ i ∧ i < (w.l.length : Int)) = true := by simpa using hi
    rw [hi']
    obtain ⟨k, rfl⟩ := Int.eq_ofNat_of_zero_le hi.1
    have hkl : k < w.l.length := by omega
    obtain ⟨t, full, hd, hg, hel⟩ := hh.at_ (i := k) (by simpa using hkl)
    obtain ⟨n, hn⟩ : ∃ n, n = (w.l.map eN).length := ⟨_, rfl⟩
    obtain ⟨m, hm⟩ : ∃ m, full.length = m := ⟨_, rfl⟩
    rw [← hn, hm] at hd
    obtain ⟨x, hx⟩ : ∃ x, x = w.l[k] := ⟨_, rfl⟩
    have hel' : full[k]? = some (eN x) := by rw [hel, hx]; simp
    have a1 : ((0 : Int) ≤ (k : Int)) = True := by simp
    have a2 : ((k : Int) < (n : Int)) = True := by simp [hn]; omega
    have a3 : IntKind.i64.wrap ((k : Int) + 1) = (k : Int) + 1 := wrap_i64 (by omega) (by have := hk.len; omega)
    have htn : t ≠ p := by intro e; subst e; rw [hg] at hp; simp [WObj] at hp
    have hpt : (p = t) = False := by simpa using Ne.symm htn
    have htp : (t = p) = False := by simpa using htn
    have hxb : x.f3.length ≤ 8192 := hk.bytes x (by rw [hx]; exact List.getElem_mem _)
    rw [eN_eq] at hel'
    rw [hd] at hp
    repeat (first | (with_reducible first | refine AW.seq ?_ | refine AW.block ?_ | refine AW.skip ?_ | refine AW.ret ?_ | refine AW.exit ?_ | refine AW.reg hT ?_) | ((with_reducible refine AW.cond_true ?_ ?_); · rfl) | ((with_reducible refine AW.cond_false ?_ ?_); · rfl) | simp (maxSteps := 3000000) (maxDischargeDepth := 12) only [seval,push_cast,appendX,Try.results7,hp,Heap.lt hp,hg,Heap.lt hg,WObj,hm,hel',a1,a2,a3,hpt,htp])
    refine AOpsL.call (first := []) (cap := []) hT rfl rfl rfl fn18 rfl (ACalls.mono (delete_hold _ (d := .sl t 0 n m) (els := w.l.map eN) k (hd ▸ hh.frame (X := []) (by repeat (first | exact Ext.refl _ _ | assumption | refine Ext.push ?_ _ | ((refine Ext.set ?_ ?_ _); rotate_left; · (simp (maxSteps := 3000000) (maxDischargeDepth := 12) only [push_cast, appendX, Nat.reduceAdd, Nat.reduceEqDiff, Nat.reduceLT, Nat.reduceLeDiff, reduceIte, reduceCtorEq])) | ((refine Ext.then1 (by assumption) ?_ ?_); rotate_left; · (intro p hp _; first | assumption | exact List.mem_cons_of_mem _ hp | (cases hp; done) | (simp at hp; subst hp; simp))))) (by simp)) (by simpa using hkl) (by simp [eN_eq]) (by have := hk.len; simp; omega)) ?_)
    rintro y σ1 ⟨hh1, ht1, hx1⟩
    have hcl := hh1.cells
    have hlf := hh1.leaf
    simp only [tOf] at hx1
    repeat (first | (with_reducible first | refine AW.seq ?_ | refine AW.block ?_ | refine AW.skip ?_ | refine AW.ret ?_ | refine AW.exit ?_ | refine AW.reg hT ?_) | ((with_reducible refine AW.cond_true ?_ ?_); · rfl) | ((with_reducible refine AW.cond_false ?_ ?_); · rfl) | simp (maxSteps := 3000000) (maxDischargeDepth := 12) only [seval,push_cast,appendX,Try.results7,hp,Heap.lt hp,hg,Heap.lt hg,hx1.2,hx1.ltT,hx1.leT,WObj,hpt,htp,↓hcl,↓hlf])
    refine AOpsL.call (first := []) (cap := []) hT rfl rfl rfl fn16 rfl (ACalls.mono (wown0_ok _ x.f0 x.f1 x.f2 x.f3 (by omega)) ?_)
    rintro y σ2 ⟨rfl, hx2⟩
    repeat (first | (with_reducible first | refine AW.seq ?_ | refine AW.block ?_ | refine AW.skip ?_ | refine AW.ret ?_ | refine AW.exit ?_ | refine AW.reg hT ?_) | ((with_reducible refine AW.cond_true ?_ ?_); · rfl) | ((with_reducible refine AW.cond_false ?_ ?_); · rfl) | simp (maxSteps := 3000000) (maxDischargeDepth := 12) only [seval,push_cast,appendX,Try.results7,hp,Heap.lt hp,hg,Heap.lt hg,hx1.2,hx1.ltT,hx1.leT,hx2.2,hx2.ltT,hx2.leT,WObj,hpt,htp])
    have hs : w.take (k : Int) = ({ w with l := w.l.eraseIdx k }, x, 0) := by
      simp [Wi.take, hkl, hx]
    rw [hs]
    have htn' := Heap.lt hg
    have hyt : ∀ q ∈ tOf y, q ∉ [p, σ.n] := by
      rw [ht1]; simp [tOf, htn]; omega
    refine ⟨_, Tells.refl _, rfl, p :: tOf y, ⟨y, rfl, ?_, ?_⟩, ?_, fun q hq hqm => ?_⟩
    · simp (maxSteps := 3000000) (maxDischargeDepth := 12) only [push_cast, appendX, Nat.reduceAdd, Nat.reduceEqDiff, Nat.reduceLT, Nat.reduceLeDiff, reduceIte, reduceCtorEq, hp, Heap.lt hp, hx1.2, hx1.ltT, hx1.leT, hx2.2, hx2.ltT, hx2.leT, hpt, WObj]
    · show Hold _ y _ ((w.l.eraseIdx k).map eN)
      have hme : (w.l.eraseIdx k).map eN = (w.l.map eN).eraseIdx k := by simp [List.eraseIdx_eq_take_drop_succ, List.map_take, List.map_drop]
      rw [hme]
      refine hh1.frame (X := [p, σ.n]) ?_ hyt
      repeat (first | exact Ext.refl _ _ | assumption | refine Ext.push ?_ _ | ((refine Ext.set ?_ ?_ _); rotate_left; · (simp (maxSteps := 3000000) (maxDischargeDepth := 12) only [push_cast, appendX, Nat.reduceAdd, Nat.reduceEqDiff, Nat.reduceLT, Nat.reduceLeDiff, reduceIte, reduceCtorEq])) | ((refine Ext.then1 (by assumption) ?_ ?_); rotate_left; · (intro p hp _; first | assumption | exact List.mem_cons_of_mem _ hp | (cases hp; done) | (simp at hp; subst hp; simp))))
    · rw [hd]
      simp only [tOf]
      repeat (first | exact Ext.refl _ _ | assumption | refine Ext.push ?_ _ | ((refine Ext.set ?_ ?_ _); rotate_left; · (simp (maxSteps := 3000000) (maxDischargeDepth := 12) only [push_cast, appendX, Nat.reduceAdd, Nat.reduceEqDiff, Nat.reduceLT, Nat.reduceLeDiff, reduceIte, reduceCtorEq])) | ((refine Ext.then1 (by assumption) ?_ ?_); rotate_left; · (intro p hp _; first | assumption | exact List.mem_cons_of_mem _ hp | (cases hp; done) | (simp at hp; subst hp; simp))))
    · rw [hd, ← ht1]; exact hqm
  · have hi' : decide (0 ≤ i ∧ i < (w.l.length : Int)) = false := by simpa using hi
    rw [hi']
    repeat (first | (with_reducible first | refine AW.seq ?_ | refine AW.block ?_ | refine AW.skip ?_ | refine AW.ret ?_ | refine AW.exit ?_ | refine AW.reg hT ?_) | ((with_reducible refine AW.cond_true ?_ ?_); · rfl) | ((with_reducible refine AW.cond_false ?_ ?_); · rfl) | simp (maxSteps := 3000000) (maxDischargeDepth := 12) only [seval,push_cast,appendX,Try.results7,hp,Heap.lt hp])
    have hs : w.take i = (w, zN, 8) := by simp only [Wi.take, if_neg hi]
    rw [hs]
    refine ⟨_, Tells.tup (l' := [.agg (eN zN), _]) ⟨Tells.agg (l' := eN zN) ⟨Tells.refl _, Tells.refl _, Tells.refl _, Tells.nil, trivial⟩, Tells.refl _, trivial⟩, rfl, p :: tOf d, ⟨d, rfl, ?_, ?_⟩, ?_, fun q hq hqm => hqm⟩
    · simp (maxSteps := 3000000) (maxDischargeDepth := 12) only [push_cast, appendX, Nat.reduceAdd, Nat.reduceEqDiff, Nat.reduceLT, Nat.reduceLeDiff, reduceIte, reduceCtorEq, hp, Heap.lt hp]
    · refine hh.frame (X := []) ?_ (by simp)
      repeat (first | exact Ext.refl _ _ | assumption | refine Ext.push ?_ _ | ((refine Ext.set ?_ ?_ _); rotate_left; · (simp (maxSteps := 3000000) (maxDischargeDepth := 12) only [push_cast, appendX, Nat.reduceAdd, Nat.reduceEqDiff, Nat.reduceLT, Nat.reduceLeDiff, reduceIte, reduceCtorEq])) | ((refine Ext.then1 (by assumption) ?_ ?_); rotate_left; · (intro p hp _; first | assumption | exact List.mem_cons_of_mem _ hp | (cases hp; done) | (simp at hp; subst hp; simp))))
    · repeat (first | exact Ext.refl _ _ | assumption | refine Ext.push ?_ _ | ((refine Ext.set ?_ ?_ _); rotate_left; · (simp (maxSteps := 3000000) (maxDischargeDepth := 12) only [push_cast, appendX, Nat.reduceAdd, Nat.reduceEqDiff, Nat.reduceLT, Nat.reduceLeDiff, reduceIte, reduceCtorEq])) | ((refine Ext.then1 (by assumption) ?_ ?_); rotate_left; · (intro p hp _; first | assumption | exact List.mem_cons_of_mem _ hp | (cases hp; done) | (simp at hp; subst hp; simp))))
theorem wtwice0_ok (σ : Heap) {fp : List Nat} {p : Nat} {w : Wi} (i : Int) (hw : Wire σ fp p w) (hk : w.Ok) : ACalls Try.prog 6 [.ptr p 0 0 1, .sc (.int .i64 i)] σ (fun y σ' => y = .sc (.int .i64 (w.twice i).2) ∧ ∃ fp', Wire σ' fp' p (w.twice i).1 ∧ Gw σ σ' fp fp') := by
  obtain ⟨d, rfl, hp, hh⟩ := hw
  have hlt := Heap.lt hp
  have hlen := tN σ hh
  have hroom : decide (0 < w.room) = true := by simpa using hk.room
  have hne := hh.ne hp (by simp [WObj])
  refine ACalls.code hT Try.func6 rfl ?_
  simp only [Try.ntmps6, List.length_cons, List.length_nil, Nat.reduceSub, Nat.reduceAdd, List.replicate, List.cons_append, List.nil_append]
  repeat (first | (with_reducible first | refine AW.seq ?_ | refine AW.block ?_ | refine AW.skip ?_ | refine AW.ret ?_ | refine AW.exit ?_ | refine AW.reg hT ?_) | ((with_reducible refine AW.cond_true ?_ ?_); · rfl) | ((with_reducible refine AW.cond_false ?_ ?_); · rfl) | simp (maxSteps := 3000000) (maxDischargeDepth := 12) only [seval,push_cast,appendX,Try.results6])
  refine AOpsL.call (first := []) (cap := []) hT rfl rfl rfl fn14 rfl (ACalls.mono (wgood0_ok (room := w.room) (lost := w.lost) (d := d) _ (by simp (maxSteps := 3000000) (maxDischargeDepth := 12) only [push_cast, appendX, Nat.reduceAdd, Nat.reduceEqDiff, Nat.reduceLT, Nat.reduceLeDiff, reduceIte, reduceCtorEq, hp, Heap.lt hp])) ?_)
  rintro y σ' ⟨rfl, rfl⟩
  rw [hroom]
  repeat (first | (with_reducible first | refine AW.seq ?_ | refine AW.block ?_ | refine AW.skip ?_ | refine AW.ret ?_ | refine AW.exit ?_ | refine AW.reg hT ?_) | ((with_reducible refine AW.cond_true ?_ ?_); · rfl) | ((with_reducible refine AW.cond_false ?_ ?_); · rfl) | simp (maxSteps := 3000000) (maxDischargeDepth := 12) only [seval,push_cast,appendX,Try.results6])
  refine AOpsL.call (first := []) (cap := []) hT rfl rfl rfl fn17 rfl (ACalls.mono (whas0_ok' (room := w.room) (lost := w.lost) (d := d) (l := w.l) _ i (by simp (maxSteps := 3000000) (maxDischargeDepth := 12) only [push_cast, appendX, Nat.reduceAdd, Nat.reduceEqDiff, Nat.reduceLT, Nat.reduceLeDiff, reduceIte, reduceCtorEq, hp, Heap.lt hp]) hh) ?_)
  rintro y σ' ⟨rfl, rfl⟩
  by_cases hi : 0 ≤ i ∧ i < (w.l.length : Int)
  · have hi' : decide (0 ≤ i ∧ i < (w.l.length : Int)) = true := by simpa using hi
    rw [hi']
    repeat (first | (with_reducible first | refine AW.seq ?_ | refine AW.block ?_ | refine AW.skip ?_ | refine AW.ret ?_ | refine AW.exit ?_ | refine AW.reg hT ?_) | ((with_reducible show AW _ (.region 5 _ _) _ _ _); (with_reducible refine AW.drawn (id := 5) hT [0,1,2,3,4,5,6,7,8,9,10] [[],[0],[0,1],[0,1,2],[0,1,2,3],[],[5],[5,6],[5,6,7],[0,1,2,3,4,5,6,7,8],[0,1,2,3,4,5,6,7,8,9]] mix (by kernel_rfl) ?_)) | ((with_reducible show DLeft _ _ _ _ (_ :: _) _ _ _ _); (with_reducible apply DLeft.step hT); (case hoi => ((simp only [List.getElem?_toArray,List.getElem?_cons_zero,List.getElem?_cons_succ]); with_reducible rfl)); (case hg => rfl); (case hk => rfl); (case hr => ((try simp (maxSteps := 3000000) (maxDischargeDepth := 12) only [seval,push_cast,appendX,Try.results6,hp,Heap.lt hp,WObj,↓hlen]); with_reducible rfl))) | ((with_reducible refine AW.cond_true ?_ ?_); · rfl) | ((with_reducible refine AW.cond_false ?_ ?_); · rfl) | simp (maxSteps := 3000000) (maxDischargeDepth := 12) only [seval,push_cast,appendX,Try.results6,hp,Heap.lt hp,WObj,↓hlen])
    by_cases hf : w.room ≤ (w.l.length : Int)
    · have hf' : decide (w.room ≤ (w.l.length : Int)) = true := by simpa using hf
      repeat (first | (with_reducible first | refine AW.seq ?_ | refine AW.block ?_ | refine AW.skip ?_ | refine AW.ret ?_ | refine AW.exit ?_ | refine AW.reg hT ?_) | ((with_reducible refine AW.cond_true ?_ ?_); · rfl) | ((with_reducible refine AW.cond_false ?_ ?_); · rfl) | simp (maxSteps := 3000000) (maxDischargeDepth := 12) only [seval,push_cast,appendX,Try.results6,hp,Heap.lt hp,WObj,hf'])
      have hs : w.twice i = (w, 7) := by simp only [Wi.twice, if_pos hi, if_pos hf]
      rw [hs]
      exact ⟨rfl, p :: tOf d, ⟨d, rfl, hp, hh⟩, Gw.refl _ _⟩
    · have hf' : decide (w.room ≤ (w.l.length : Int)) = false := by simpa using hf
      obtain ⟨k, rfl⟩ := Int.eq_ofNat_of_zero_le hi.1
      have hkl : k < w.l.length := by omega
      obtain ⟨t, full, hd, hg, hel⟩ := hh.at_ (i := k) (by simpa using hkl)
      obtain ⟨n, hn⟩ : ∃ n, n = (w.l.map eN).length := ⟨_, rfl⟩
      obtain ⟨m, hm⟩ : ∃ m, full.length = m := ⟨_, rfl⟩
      rw [← hn, hm] at hd
      obtain ⟨x, hx⟩ : ∃ x, x = w.l[k] := ⟨_, rfl⟩
      have hel' : full[k]? = some (eN x) := by rw [hel, hx]; simp
      have a1 : ((0 : Int) ≤ (k : Int)) = True := by simp
      have a2 : ((k : Int) < (n : Int)) = True := by simp [hn]; omega
      have htn : t ≠ p := by intro e; subst e; rw [hg] at hp; simp [WObj] at hp
      have hpt : (p = t) = False := by simpa using Ne.symm htn
      have htp : (t = p) = False := by simpa using htn
      rw [eN_eq] at hel'
      have hall : ([eN x].all fun el => el.length == 4) = true := rfl
      obtain ⟨d', σ3, happ, hh', hext, hfp⟩ := Hold.append (T := T) (ty := 52) (x := .sl σ'.n 0 1 1) (xs := [eN x]) (hh.frame (X := []) (σ' := σ'.push ⟨[eN x], 29, true⟩) (by repeat (first | exact Ext.refl _ _ | assumption | refine Ext.push ?_ _ | ((refine Ext.set ?_ ?_ _); rotate_left; · (simp (maxSteps := 3000000) (maxDischargeDepth := 12) only [push_cast, appendX, Nat.reduceAdd, Nat.reduceEqDiff, Nat.reduceLT, Nat.reduceLeDiff, reduceIte, reduceCtorEq])) | ((refine Ext.then1 (by assumption) ?_ ?_); rotate_left; · (intro p hp _; first | assumption | exact List.mem_cons_of_mem _ hp | (cases hp; done) | (simp at hp; subst hp; simp))))) (by simp)) rfl rfl (by decide) (by simp (maxSteps := 3000000) (maxDischargeDepth := 12) only [seval,push_cast,appendX,sliceD]) (by simp) hall (by have := hk.len; simp; omega)
      have hcl := hh'.cells
      have hlf := hh'.leaf
      have hh2 := hh'
      rw [hd] at hp happ hext
      simp only [eN_eq, tOf] at happ hext
      repeat (first | (with_reducible first | refine AW.seq ?_ | refine AW.block ?_ | refine AW.skip ?_ | refine AW.ret ?_ | refine AW.exit ?_ | refine AW.reg hT ?_) | ((with_reducible show AW _ (.region 7 _ _) _ _ _); (with_reducible refine AW.drawn (id := 7) hT [0,1,2,3,4,5,6,7,8,9,10,11,12,13,14,15,16] [[],[],[1],[1,2],[1,2,3],[],[5],[5,6],[5,6,7],[],[5,6,7,8,9],[5,6,7,8,9,10],[5,6,7,8,9,10,11],[1,2,3,4,5,6,7,8,9,10,11,12],[0,1,2,3,4,5,6,7,8,9,10,11,12,13],[0,1,2,3,4,5,6,7,8,9,10,11,12,13,14],[0,1,2,3,4,5,6,7,8,9,10,11,12,13,14,15]] mix (by kernel_rfl) ?_)) | ((with_reducible show DLeft _ _ _ _ (_ :: _) _ _ _ _); (with_reducible apply DLeft.step hT); (case hoi => ((simp only [List.getElem?_toArray,List.getElem?_cons_zero,List.getElem?_cons_succ]); with_reducible rfl)); (case hg => rfl); (case hk => rfl); (case hr => ((try simp (maxSteps := 3000000) (maxDischargeDepth := 12) only [seval,push_cast,appendX,Try.results6,hp,Heap.lt hp,hg,Heap.lt hg,hext.2,hext.ltT,hext.leT,WObj,hf',hm,hel',a1,a2,hpt,htp,↓happ,↓hcl,↓hlf]); with_reducible rfl))) | ((with_reducible refine AW.cond_true ?_ ?_); · rfl) | ((with_reducible refine AW.cond_false ?_ ?_); · rfl) | simp (maxSteps := 3000000) (maxDischargeDepth := 12) only [seval,push_cast,appendX,Try.results6,hp,Heap.lt hp,hg,Heap.lt hg,hext.2,hext.ltT,hext.leT,WObj,hf',hm,hel',a1,a2,hpt,htp,↓happ,↓hcl,↓hlf])
      have hs : w.twice (k : Int) = ({ w with l := w.l ++ [x] }, 0) := by
        simp only [Wi.twice, if_pos hi, if_neg hf]
        simp [hkl, hx]
      rw [hs]
      refine ⟨rfl, p :: tOf d', wire_set (σ := σ3) (d := d') (w := { w with l := w.l ++ [x] }) (o := WObj w.room (.sl t 0 n m) w.lost) (by simp (maxSteps := 3000000) (maxDischargeDepth := 12) only [push_cast, appendX, Nat.reduceAdd, Nat.reduceEqDiff, Nat.reduceLT, Nat.reduceLeDiff, reduceIte, reduceCtorEq, hp, Heap.lt hp, hext.2, hext.ltT, hext.leT, hpt, htp]) (by simp [WObj]) (by simpa using hh2), ?_, fun q hq hm => ?_⟩
      · rw [hd]; simp only [tOf]
        repeat (first | exact Ext.refl _ _ | assumption | refine Ext.push ?_ _ | ((refine Ext.set ?_ ?_ _); rotate_left; · (simp (maxSteps := 3000000) (maxDischargeDepth := 12) only [push_cast, appendX, Nat.reduceAdd, Nat.reduceEqDiff, Nat.reduceLT, Nat.reduceLeDiff, reduceIte, reduceCtorEq, hp, Heap.lt hp])) | ((refine Ext.then1 (by assumption) ?_ ?_); rotate_left; · (intro p hp _; first | assumption | exact List.mem_cons_of_mem _ hp | (cases hp; done) | (simp at hp; subst hp; simp))))
      · rcases List.mem_cons.1 hm with rfl | hm
        · exact List.mem_cons_self
        · refine List.mem_cons_of_mem _ (hfp q ?_ hm)
          simp; omega
  · have hi' : decide (0 ≤ i ∧ i < (w.l.length : Int)) = false := by simpa using hi
    rw [hi']
    repeat (first | (with_reducible first | refine AW.seq ?_ | refine AW.block ?_ | refine AW.skip ?_ | refine AW.ret ?_ | refine AW.exit ?_ | refine AW.reg hT ?_) | ((with_reducible refine AW.cond_true ?_ ?_); · rfl) | ((with_reducible refine AW.cond_false ?_ ?_); · rfl) | simp (maxSteps := 3000000) (maxDischargeDepth := 12) only [seval,push_cast,appendX,Try.results6,hp,Heap.lt hp])
    have hs : w.twice i = (w, 8) := by simp only [Wi.twice, if_neg hi]
    rw [hs]
    exact ⟨rfl, p :: tOf d, ⟨d, rfl, hp, hh⟩, Gw.refl _ _⟩
theorem new_wire (σ : Heap) (n : Int) : Wire (σ.push ⟨[[.sc (.int .i64 n), .sc (.slice none 0 0), .sc (.int .i64 0)]], 54, true⟩) [σ.n] σ.n ⟨n, [], 0⟩ := ⟨.sc (.slice none 0 0), rfl, Heap.get_push, Hold.nil _ _⟩
theorem wlen_ok (σ : Heap) {fp : List Nat} {p : Nat} {w : Wi} (hw : Wire σ fp p w) (hr : 0 < w.room) : ACalls Try.prog 10 [.ptr p 0 0 1] σ (fun x σ' => x = .sc (.int .i64 w.l.length) ∧ σ' = σ) := by
  obtain ⟨d, _, h1, h2⟩ := hw
  exact wlen0_ok σ ⟨d, h1, h2⟩ hr
theorem Wire.frame {σ σ' : Heap} {fp X : List Nat} {p : Nat} {w : Wi} (h : Wire σ fp p w) (hx : Ext X σ σ') (hd : ∀ q ∈ fp, q ∉ X) : Wire σ' fp p w := by
  obtain ⟨d, rfl, h1, h2⟩ := h
  exact ⟨d, rfl, hx.get h1 (hd p List.mem_cons_self), h2.frame hx (fun q hq => hd q (List.mem_cons_of_mem _ hq))⟩
theorem Wire.lt {σ : Heap} {fp : List Nat} {p : Nat} {w : Wi} (h : Wire σ fp p w) : ∀ q ∈ fp, q < σ.n := by
  obtain ⟨d, rfl, h1, h2⟩ := h
  intro q hq
  rcases List.mem_cons.1 hq with rfl | hq
  · exact Heap.lt h1
  · exact h2.lt q hq
theorem Gw.ext {a b c : Heap} {x y : List Nat} (h : Gw a b x y) (k : Ext [] b c) : Gw a c x y := ⟨h.1.then k (by simp), h.2⟩
end Go.Proofs.Ytdkhlhfdjggbpaa.Cm
