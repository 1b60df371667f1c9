/- Package object: the program's side (the plain law of objects' bytes). Package sum: the sum with carry of bytes, and bytes that bear it. Package sum's functions. -/
import Derived.Test.YtdkhlhfdjggbpaaCmYl
import Derived.Test.YtdkhlhfdjggbpaaCOctY
import Derived.Test.YtdkhlhfdjggbpaaCmYm
namespace Go.Proofs.Ytdkhlhfdjggbpaa.Cm
open Go.RowKit
set_option linter.unusedVariables false
set_option linter.unusedSimpArgs false
set_option maxRecDepth 20000
set_option maxHeartbeats 8000000
structure Ob where
  f0 : Int
  f1 : Int
  f2 : List Int
def eO (x : Ob) : List DV := [.sc (.int .i64 x.f0), .sc (.int .i64 x.f1), .imm (bytesD x.f2)]
theorem eO_eq (x : Ob) : eO x = [.sc (.int .i64 x.f0), .sc (.int .i64 x.f1), .imm (bytesD x.f2)] := rfl
def mayO (x : Ob) : Prop := (0 ≤ x.f0 ∧ x.f0 ≤ 255) ∧ (0 ≤ x.f1 ∧ x.f1 ≤ 255) ∧ x.f2.length ≤ 4096 ∧ x.f2.length % 4 = 0
instance (x : Ob) : Decidable (mayO x) := by unfold mayO; infer_instance
theorem pmay_ok (σ : Heap) (x : Ob) : ACalls Try.prog 60 [.agg (eO x)] σ (fun y σ' => y = .sc (.bool (decide (mayO x))) ∧ Ext [] σ σ') := by
  have dc8 : (bytesD x.f2).length = x.f2.length := bytesD_length _
  have htm : (x.f2.length : Int).tmod 4 = ((x.f2.length % 4 : Nat) : Int) := by rw [Int.tmod_eq_emod_of_nonneg (by omega)]; omega
  simp only [eO_eq]
  refine ACalls.code hT Try.func60 rfl ?_
  simp only [Try.ntmps60, List.length_cons, List.length_nil, Nat.reduceSub, Nat.reduceAdd, List.replicate, List.cons_append, List.nil_append]
  by_cases hA0 : 0 ≤ x.f0
  · have dcA0 : decide (0 ≤ x.f0) = true := by simpa using hA0
    by_cases hA1 : x.f0 ≤ 255
    · have dcA1 : decide (x.f0 ≤ 255) = true := by simpa using hA1
      by_cases hA2 : 0 ≤ x.f1
      · have dcA2 : decide (0 ≤ x.f1) = true := by simpa using hA2
        by_cases hA3 : x.f1 ≤ 255
        · have dcA3 : decide (x.f1 ≤ 255) = true := by simpa using hA3
          by_cases hA4 : (x.f2.length : Int) ≤ 4096
          · have dcA4 : decide ((x.f2.length : Int) ≤ 4096) = true := by simpa using hA4
            by_cases hA5 : (x.f2.length : Int).tmod 4 = 0
            · have dcA5 : ((x.f2.length : Int).tmod 4 == 0) = true := by simpa using hA5
              repeat (first | (with_reducible first | refine AW.seq ?_ | refine AW.block ?_ | refine AW.skip ?_ | refine AW.ret ?_ | refine AW.exit ?_ | refine AW.reg hT ?_) | ((with_reducible refine AW.cond_true ?_ ?_); · rfl) | ((with_reducible refine AW.cond_false ?_ ?_); · rfl) | simp (maxSteps := 3000000) (maxDischargeDepth := 12) only [seval,push_cast,appendX,Try.results60,dc8,dcA0,dcA1,dcA2,dcA3,dcA4,dcA5])
              refine ⟨by simp [mayO, *] <;> omega, ?_⟩
              repeat (first | exact Ext.refl _ _ | assumption | refine Ext.push ?_ _ | ((refine Ext.set ?_ ?_ _); rotate_left; · (simp (maxSteps := 3000000) (maxDischargeDepth := 12) only [push_cast, appendX, Nat.reduceAdd, Nat.reduceEqDiff, Nat.reduceLT, Nat.reduceLeDiff, reduceIte, reduceCtorEq, dc8, dcA0, dcA1, dcA2, dcA3, dcA4, dcA5])) | ((refine Ext.then1 (by assumption) ?_ ?_); rotate_left; · (intro p hp _; first | assumption | exact List.mem_cons_of_mem _ hp | (cases hp; done) | (simp at hp; subst hp; simp))))
            · have dcA5 : ((x.f2.length : Int).tmod 4 == 0) = false := by simpa using hA5
              repeat (first | (with_reducible first | refine AW.seq ?_ | refine AW.block ?_ | refine AW.skip ?_ | refine AW.ret ?_ | refine AW.exit ?_ | refine AW.reg hT ?_) | ((with_reducible refine AW.cond_true ?_ ?_); · rfl) | ((with_reducible refine AW.cond_false ?_ ?_); · rfl) | simp (maxSteps := 3000000) (maxDischargeDepth := 12) only [seval,push_cast,appendX,Try.results60,dc8,dcA0,dcA1,dcA2,dcA3,dcA4,dcA5])
              refine ⟨by simp [mayO, *] <;> omega, ?_⟩
              repeat (first | exact Ext.refl _ _ | assumption | refine Ext.push ?_ _ | ((refine Ext.set ?_ ?_ _); rotate_left; · (simp (maxSteps := 3000000) (maxDischargeDepth := 12) only [push_cast, appendX, Nat.reduceAdd, Nat.reduceEqDiff, Nat.reduceLT, Nat.reduceLeDiff, reduceIte, reduceCtorEq, dc8, dcA0, dcA1, dcA2, dcA3, dcA4, dcA5])) | ((refine Ext.then1 (by assumption) ?_ ?_); rotate_left; · (intro p hp _; first | assumption | exact List.mem_cons_of_mem _ hp | (cases hp; done) | (simp at hp; subst hp; simp))))
          · have dcA4 : decide ((x.f2.length : Int) ≤ 4096) = false := by simpa using hA4
            repeat (first | (with_reducible first | refine AW.seq ?_ | refine AW.block ?_ | refine AW.skip ?_ | refine AW.ret ?_ | refine AW.exit ?_ | refine AW.reg hT ?_) | ((with_reducible refine AW.cond_true ?_ ?_); · rfl) | ((with_reducible refine AW.cond_false ?_ ?_); · rfl) | simp (maxSteps := 3000000) (maxDischargeDepth := 12) only [seval,push_cast,appendX,Try.results60,dc8,dcA0,dcA1,dcA2,dcA3,dcA4])
            refine ⟨by simp [mayO, *] <;> omega, ?_⟩
            repeat (first | exact Ext.refl _ _ | assumption | refine Ext.push ?_ _ | ((refine Ext.set ?_ ?_ _); rotate_left; · (simp (maxSteps := 3000000) (maxDischargeDepth := 12) only [push_cast, appendX, Nat.reduceAdd, Nat.reduceEqDiff, Nat.reduceLT, Nat.reduceLeDiff, reduceIte, reduceCtorEq, dc8, dcA0, dcA1, dcA2, dcA3, dcA4])) | ((refine Ext.then1 (by assumption) ?_ ?_); rotate_left; · (intro p hp _; first | assumption | exact List.mem_cons_of_mem _ hp | (cases hp; done) | (simp at hp; subst hp; simp))))
        · have dcA3 : decide (x.f1 ≤ 255) = false := by simpa using hA3
          repeat (first | (with_reducible first | refine AW.seq ?_ | refine AW.block ?_ | refine AW.skip ?_ | refine AW.ret ?_ | refine AW.exit ?_ | refine AW.reg hT ?_) | ((with_reducible refine AW.cond_true ?_ ?_); · rfl) | ((with_reducible refine AW.cond_false ?_ ?_); · rfl) | simp (maxSteps := 3000000) (maxDischargeDepth := 12) only [seval,push_cast,appendX,Try.results60,dc8,dcA0,dcA1,dcA2,dcA3])
          refine ⟨by simp [mayO, *] <;> omega, ?_⟩
          repeat (first | exact Ext.refl _ _ | assumption | refine Ext.push ?_ _ | ((refine Ext.set ?_ ?_ _); rotate_left; · (simp (maxSteps := 3000000) (maxDischargeDepth := 12) only [push_cast, appendX, Nat.reduceAdd, Nat.reduceEqDiff, Nat.reduceLT, Nat.reduceLeDiff, reduceIte, reduceCtorEq, dc8, dcA0, dcA1, dcA2, dcA3])) | ((refine Ext.then1 (by assumption) ?_ ?_); rotate_left; · (intro p hp _; first | assumption | exact List.mem_cons_of_mem _ hp | (cases hp; done) | (simp at hp; subst hp; simp))))
      · have dcA2 : decide (0 ≤ x.f1) = false := by simpa using hA2
        repeat (first | (with_reducible first | refine AW.seq ?_ | refine AW.block ?_ | refine AW.skip ?_ | refine AW.ret ?_ | refine AW.exit ?_ | refine AW.reg hT ?_) | ((with_reducible refine AW.cond_true ?_ ?_); · rfl) | ((with_reducible refine AW.cond_false ?_ ?_); · rfl) | simp (maxSteps := 3000000) (maxDischargeDepth := 12) only [seval,push_cast,appendX,Try.results60,dc8,dcA0,dcA1,dcA2])
        refine ⟨by simp [mayO, *] <;> omega, ?_⟩
        repeat (first | exact Ext.refl _ _ | assumption | refine Ext.push ?_ _ | ((refine Ext.set ?_ ?_ _); rotate_left; · (simp (maxSteps := 3000000) (maxDischargeDepth := 12) only [push_cast, appendX, Nat.reduceAdd, Nat.reduceEqDiff, Nat.reduceLT, Nat.reduceLeDiff, reduceIte, reduceCtorEq, dc8, dcA0, dcA1, dcA2])) | ((refine Ext.then1 (by assumption) ?_ ?_); rotate_left; · (intro p hp _; first | assumption | exact List.mem_cons_of_mem _ hp | (cases hp; done) | (simp at hp; subst hp; simp))))
    · have dcA1 : decide (x.f0 ≤ 255) = false := by simpa using hA1
      repeat (first | (with_reducible first | refine AW.seq ?_ | refine AW.block ?_ | refine AW.skip ?_ | refine AW.ret ?_ | refine AW.exit ?_ | refine AW.reg hT ?_) | ((with_reducible refine AW.cond_true ?_ ?_); · rfl) | ((with_reducible refine AW.cond_false ?_ ?_); · rfl) | simp (maxSteps := 3000000) (maxDischargeDepth := 12) only [seval,push_cast,appendX,Try.results60,dc8,dcA0,dcA1])
      refine ⟨by simp [mayO, *] <;> omega, ?_⟩
      repeat (first | exact Ext.refl _ _ | assumption | refine Ext.push ?_ _ | ((refine Ext.set ?_ ?_ _); rotate_left; · (simp (maxSteps := 3000000) (maxDischargeDepth := 12) only [push_cast, appendX, Nat.reduceAdd, Nat.reduceEqDiff, Nat.reduceLT, Nat.reduceLeDiff, reduceIte, reduceCtorEq, dc8, dcA0, dcA1])) | ((refine Ext.then1 (by assumption) ?_ ?_); rotate_left; · (intro p hp _; first | assumption | exact List.mem_cons_of_mem _ hp | (cases hp; done) | (simp at hp; subst hp; simp))))
  · have dcA0 : decide (0 ≤ x.f0) = false := by simpa using hA0
    repeat (first | (with_reducible first | refine AW.seq ?_ | refine AW.block ?_ | refine AW.skip ?_ | refine AW.ret ?_ | refine AW.exit ?_ | refine AW.reg hT ?_) | ((with_reducible refine AW.cond_true ?_ ?_); · rfl) | ((with_reducible refine AW.cond_false ?_ ?_); · rfl) | simp (maxSteps := 3000000) (maxDischargeDepth := 12) only [seval,push_cast,appendX,Try.results60,dc8,dcA0])
    refine ⟨by simp [mayO, *] <;> omega, ?_⟩
    repeat (first | exact Ext.refl _ _ | assumption | refine Ext.push ?_ _ | ((refine Ext.set ?_ ?_ _); rotate_left; · (simp (maxSteps := 3000000) (maxDischargeDepth := 12) only [push_cast, appendX, Nat.reduceAdd, Nat.reduceEqDiff, Nat.reduceLT, Nat.reduceLeDiff, reduceIte, reduceCtorEq, dc8, dcA0])) | ((refine Ext.then1 (by assumption) ?_ ?_); rotate_left; · (intro p hp _; first | assumption | exact List.mem_cons_of_mem _ hp | (cases hp; done) | (simp at hp; subst hp; simp))))
def obB (x : Ob) : List Int := digits 2 ((x.f2.length : Int) + 4) ++ [x.f0, x.f1] ++ x.f2
theorem obB_length (x : Ob) : (obB x).length = x.f2.length + 4 := by simp [obB, digits_length]; omega
def obsB (l : List Ob) : List Int := l.flatMap obB
theorem obsB_take {l : List Ob} {i : Nat} (h : i < l.length) : obsB (l.take (i + 1)) = obsB (l.take i) ++ obB l[i] := by
  unfold obsB; rw [List.take_add_one, List.getElem?_eq_getElem h, Option.toList_some, List.flatMap_append]; simp
def encO (l : List Ob) : List Int × Int := if 32 < l.length then ([], 3) else if ∀ x ∈ l, mayO x then (if 4096 < (obsB l).length then ([], 3) else (obsB l, 0)) else ([], 2)
theorem obsB_bound {l : List Ob} (h : ∀ x ∈ l, mayO x) : (obsB l).length ≤ l.length * 4100 := by
  induction l with
  | nil => simp [obsB]
  | cons x r ih =>
    have h1 := ih (fun y hy => h y (List.mem_cons_of_mem _ hy))
    have h2 := (h x List.mem_cons_self).2.2.1
    simp only [obsB, List.flatMap_cons, List.length_append, List.length_cons] at h1 ⊢
    rw [obB_length]; omega
theorem mays_take {l : List Ob} {i : Nat} (h : i < l.length) (h1 : ∀ x ∈ l.take i, mayO x) (h2 : mayO l[i]) : ∀ x ∈ l.take (i + 1), mayO x := by
  intro x hx
  rw [List.take_add_one, List.getElem?_eq_getElem h, Option.toList_some] at hx
  rcases List.mem_append.1 hx with hx | hx
  · exact h1 x hx
  · simp at hx; subst hx; exact h2
def szI (l : List Ob) (σ0 : Heap) (m : Nat) (ts : List DV) (σ : Heap) : Prop := ∃ i, m = l.length + 1 - i ∧ i ≤ l.length ∧ (∀ x ∈ l.take i, mayO x) ∧ Ext [] σ0 σ ∧ TellsL ts (.any :: .any :: .sc (.int .i64 0) :: .sc (.int .i64 0) :: .sc (.int .i64 (obsB (l.take i)).length) :: .any :: .any :: .any :: .any :: .any :: .imm (l.map eO) :: .sc (.int .i64 l.length) :: .sc (.int .i64 i) :: .any :: .any :: .any :: .any :: .any :: .any :: .any :: .any :: .any :: .any :: .any :: .any :: .any :: .any :: .any :: .any :: [])
theorem size_ok (σ : Heap) (l : List Ob) (hl : l.length ≤ 1000000) : ACalls Try.prog 33 [.imm (l.map eO)] σ (fun x σ' => x = .tup [.sc (.int .i64 (encO l).1.length), .sc (.int .i64 (encO l).2)] ∧ Ext [] σ σ') := by
  have dcml : (l.map eO).length = l.length := by simp
  refine ACalls.code hT Try.func33 rfl ?_
  simp only [Try.ntmps33, List.length_cons, List.length_nil, Nat.reduceSub, Nat.reduceAdd, List.replicate, List.cons_append, List.nil_append]
  by_cases h32 : 32 < l.length
  · have dc1 : decide (32 < (l.length : Int)) = true := by simp; omega
    repeat (first | (with_reducible first | refine AW.seq ?_ | refine AW.block ?_ | refine AW.skip ?_ | refine AW.ret ?_ | refine AW.exit ?_ | refine AW.reg hT ?_) | ((with_reducible refine AW.cond_true ?_ ?_); · rfl) | ((with_reducible refine AW.cond_false ?_ ?_); · rfl) | simp (maxSteps := 3000000) (maxDischargeDepth := 12) only [seval,push_cast,appendX,Try.results33,dcml,dc1])
    exact ⟨by simp [encO, h32], Ext.refl _ _⟩
  · have dc1 : decide (32 < (l.length : Int)) = false := by simp; omega
    repeat (first | (with_reducible first | refine AW.seq ?_ | refine AW.block ?_ | refine AW.skip ?_ | refine AW.ret ?_ | refine AW.exit ?_ | refine AW.reg hT ?_) | ((with_reducible refine AW.cond_true ?_ ?_); · rfl) | ((with_reducible refine AW.cond_false ?_ ?_); · rfl) | simp (maxSteps := 3000000) (maxDischargeDepth := 12) only [seval,push_cast,appendX,Try.results33,dcml,dc1])
    refine AW.loop (szI l σ) (m := l.length + 1) ⟨0, rfl, Nat.zero_le _, by simp, Ext.refl _ _, by (simp only [push_cast, TellsL, tells_any, tells_refl, obsB, List.flatMap_nil])⟩ ?_
    rintro m ts σ3 ⟨i, rfl, hil, hmay, xt3, hts⟩
    refine AW.told hts ?_
    clear hts
    have hbd := obsB_bound hmay
    rw [List.length_take] at hbd
    by_cases hi : i < l.length
    · have dci : decide ((i : Int) < (l.length : Int)) = true := by simp; omega
      have dci2 : ((i : Int) < (l.length : Int)) = True := by simp; omega
      have dci0 : ((0 : Int) ≤ (i : Int)) = True := by simp
      obtain ⟨x, hx⟩ : ∃ x, x = l[i] := ⟨_, rfl⟩
      have dcel : (l.map eO)[i]? = some (eO x) := by rw [List.getElem?_map, List.getElem?_eq_getElem hi, hx]; rfl
      rw [eO_eq] at dcel
      have dcw : IntKind.i64.wrap ((i : Int) + 1) = (i : Int) + 1 := wrap_i64 (by omega) (by omega)
      have dcb : (bytesD x.f2).length = x.f2.length := bytesD_length _
      repeat (first | (with_reducible first | refine AW.seq ?_ | refine AW.block ?_ | refine AW.skip ?_ | refine AW.ret ?_ | refine AW.exit ?_ | refine AW.reg hT ?_) | ((with_reducible refine AW.cond_true ?_ ?_); · rfl) | ((with_reducible refine AW.cond_false ?_ ?_); · rfl) | simp (maxSteps := 3000000) (maxDischargeDepth := 12) only [seval,push_cast,appendX,Try.results33,dcml,dc1,xt3.2,xt3.ltT,xt3.leT,dci,dci2,dci0,dcel,dcw,dcb])
      refine AOpsL.call (first := []) (cap := []) hT rfl rfl rfl fn60 rfl (ACalls.mono (pmay_ok _ x) ?_)
      rintro y σ4 ⟨rfl, xt4⟩
      by_cases hm : mayO x
      · have dcm : decide (mayO x) = true := by simpa using hm
        have hlen := hm.2.2.1
        have hsz : ((obsB (l.take (i + 1))).length : Int) = ((obsB (l.take i)).length : Int) + (4 + (x.f2.length : Int)) := by rw [obsB_take hi, ← hx, List.length_append, obB_length]; omega
        have dcw2 : IntKind.i64.wrap (4 + (x.f2.length : Int)) = 4 + (x.f2.length : Int) := wrap_i64 (by omega) (by omega)
        have dcw3 : IntKind.i64.wrap (((obsB (l.take i)).length : Int) + (4 + (x.f2.length : Int))) = ((obsB (l.take (i + 1))).length : Int) := by rw [wrap_i64 (by omega) (by omega), hsz]
        repeat (first | (with_reducible first | refine AW.seq ?_ | refine AW.block ?_ | refine AW.skip ?_ | refine AW.ret ?_ | refine AW.exit ?_ | refine AW.reg hT ?_) | ((with_reducible refine AW.cond_true ?_ ?_); · rfl) | ((with_reducible refine AW.cond_false ?_ ?_); · rfl) | simp (maxSteps := 3000000) (maxDischargeDepth := 12) only [seval,push_cast,appendX,Try.results33,dcml,dc1,xt3.2,xt3.ltT,xt3.leT,dci,dci2,dci0,dcel,dcw,dcb,xt4.2,xt4.ltT,xt4.leT,dcm,dcw2,dcw3])
        refine ⟨l.length + 1 - (i + 1), by omega, i + 1, rfl, hi, mays_take hi hmay (hx ▸ hm), ?_, by (simp only [push_cast, TellsL, tells_any, tells_refl])⟩
        repeat (first | exact Ext.refl _ _ | assumption | refine Ext.push ?_ _ | ((refine Ext.set ?_ ?_ _); rotate_left; · (simp (maxSteps := 3000000) (maxDischargeDepth := 12) only [push_cast, appendX, Nat.reduceAdd, Nat.reduceEqDiff, Nat.reduceLT, Nat.reduceLeDiff, reduceIte, reduceCtorEq, dcml, dc1, xt3.2, xt3.ltT, xt3.leT, dci, dci2, dci0, dcel, dcw, dcb, xt4.2, xt4.ltT, xt4.leT, dcm, dcw2, dcw3])) | ((refine Ext.then1 (by assumption) ?_ ?_); rotate_left; · (intro p hp _; first | assumption | exact List.mem_cons_of_mem _ hp | (cases hp; done) | (simp at hp; subst hp; simp))))
      · have dcm : decide (mayO x) = false := by simpa using hm
        repeat (first | (with_reducible first | refine AW.seq ?_ | refine AW.block ?_ | refine AW.skip ?_ | refine AW.ret ?_ | refine AW.exit ?_ | refine AW.reg hT ?_) | ((with_reducible refine AW.cond_true ?_ ?_); · rfl) | ((with_reducible refine AW.cond_false ?_ ?_); · rfl) | simp (maxSteps := 3000000) (maxDischargeDepth := 12) only [seval,push_cast,appendX,Try.results33,dcml,dc1,xt3.2,xt3.ltT,xt3.leT,dci,dci2,dci0,dcel,dcw,dcb,xt4.2,xt4.ltT,xt4.leT,dcm])
        refine ⟨?_, ?_⟩
        · have : ¬ ∀ y ∈ l, mayO y := fun h => hm (h x (by rw [hx]; exact List.getElem_mem _))
          simp [encO, h32, this]
        · repeat (first | exact Ext.refl _ _ | assumption | refine Ext.push ?_ _ | ((refine Ext.set ?_ ?_ _); rotate_left; · (simp (maxSteps := 3000000) (maxDischargeDepth := 12) only [push_cast, appendX, Nat.reduceAdd, Nat.reduceEqDiff, Nat.reduceLT, Nat.reduceLeDiff, reduceIte, reduceCtorEq, dcml, dc1, xt3.2, xt3.ltT, xt3.leT, dci, dci2, dci0, dcel, dcw, dcb, xt4.2, xt4.ltT, xt4.leT, dcm])) | ((refine Ext.then1 (by assumption) ?_ ?_); rotate_left; · (intro p hp _; first | assumption | exact List.mem_cons_of_mem _ hp | (cases hp; done) | (simp at hp; subst hp; simp))))
    · have dci : decide ((i : Int) < (l.length : Int)) = false := by simp; omega
      have he : i = l.length := by omega
      subst he
      rw [List.take_length] at hmay ⊢
      by_cases hb : 4096 < (obsB l).length
      · have dcb : decide (4096 < ((obsB l).length : Int)) = true := by simp; omega
        repeat (first | (with_reducible first | refine AW.seq ?_ | refine AW.block ?_ | refine AW.skip ?_ | refine AW.ret ?_ | refine AW.exit ?_ | refine AW.reg hT ?_) | ((with_reducible refine AW.cond_true ?_ ?_); · rfl) | ((with_reducible refine AW.cond_false ?_ ?_); · rfl) | simp (maxSteps := 3000000) (maxDischargeDepth := 12) only [seval,push_cast,appendX,Try.results33,dcml,dc1,xt3.2,xt3.ltT,xt3.leT,dci,dcb])
        exact ⟨by rw [encO, if_neg h32, if_pos hmay, if_pos hb]; rfl, xt3⟩
      · have dcb : decide (4096 < ((obsB l).length : Int)) = false := by simp; omega
        repeat (first | (with_reducible first | refine AW.seq ?_ | refine AW.block ?_ | refine AW.skip ?_ | refine AW.ret ?_ | refine AW.exit ?_ | refine AW.reg hT ?_) | ((with_reducible refine AW.cond_true ?_ ?_); · rfl) | ((with_reducible refine AW.cond_false ?_ ?_); · rfl) | simp (maxSteps := 3000000) (maxDischargeDepth := 12) only [seval,push_cast,appendX,Try.results33,dcml,dc1,xt3.2,xt3.ltT,xt3.leT,dci,dcb])
        exact ⟨by rw [encO, if_neg h32, if_pos hmay, if_neg hb], xt3⟩
def enI (l : List Ob) (σ0 : Heap) (m : Nat) (ts : List DV) (σ : Heap) : Prop := ∃ i d, m = l.length + 1 - i ∧ i ≤ l.length ∧ Hold σ d 5 (bytesD (obsB (l.take i))) ∧ (∀ q ∈ tOf d, σ0.n ≤ q) ∧ Ext [] σ0 σ ∧ TellsL ts (.any :: .any :: .sc (.slice none 0 0) :: .sc (.int .i64 0) :: .any :: .any :: d :: .any :: .any :: .any :: .any :: .any :: .any :: .any :: .any :: .any :: .any :: .any :: .any :: .imm (l.map eO) :: .sc (.int .i64 l.length) :: .sc (.int .i64 i) :: .any :: .any :: .any :: .any :: .any :: .any :: .any :: .any :: .any :: .any :: .any :: .any :: .any :: .any :: .any :: .any :: .any :: .any :: .any :: .any :: .any :: .any :: .any :: .any :: .any :: .any :: .any :: .any :: [])
theorem encode_ok (σ : Heap) (l : List Ob) (hl : l.length ≤ 1000000) : ACalls Try.prog 21 [.imm (l.map eO)] σ (fun x σ' => x = .tup [.imm (bytesD (encO l).1), .sc (.int .i64 (encO l).2)] ∧ Ext [] σ σ') := by
  have dcml : (l.map eO).length = l.length := by simp
  refine ACalls.toImmG (e := 5) (els := bytesD (encO l).1) (fun d => .tup [d, .sc (.int .i64 (encO l).2)]) ?_ ?_ ?_
  · intro t m es d d' h
    obtain ⟨h1, h2⟩ := FZL.spec (t := t) (m := m) (els := es) (l := [d, .sc (.int .i64 (encO l).2)]) (l' := [d', .sc (.int .i64 (encO l).2)]) ⟨h, .keep _, trivial⟩
    exact .tup h1 h2
  · exact Tells.tup ⟨Tells.nil, Tells.refl _, trivial⟩
  refine ACalls.code hT Try.func21 rfl ?_
  simp only [Try.ntmps21, List.length_cons, List.length_nil, Nat.reduceSub, Nat.reduceAdd, List.replicate, List.cons_append, List.nil_append]
  repeat (first | (with_reducible first | refine AW.seq ?_ | refine AW.block ?_ | refine AW.skip ?_ | refine AW.ret ?_ | refine AW.exit ?_ | refine AW.reg hT ?_) | ((with_reducible refine AW.cond_true ?_ ?_); · rfl) | ((with_reducible refine AW.cond_false ?_ ?_); · rfl) | simp (maxSteps := 3000000) (maxDischargeDepth := 12) only [seval,push_cast,appendX,Try.results21,dcml])
  refine AOpsL.call (first := []) (cap := []) hT rfl rfl rfl fn33 rfl (ACalls.mono (size_ok _ l hl) ?_)
  rintro x σ1 ⟨rfl, xt1⟩
  by_cases he : (encO l).2 = 0
  · have dce : ((encO l).2 == 0) = true := by simpa using he
    have hall : encO l = (obsB l, 0) ∧ (∀ x ∈ l, mayO x) ∧ l.length ≤ 32 ∧ (obsB l).length ≤ 4096 := by
      revert he; unfold encO
      split
      · simp
      · split
        · split
          · simp
          · intro _; rename_i h1 h2 h3; exact ⟨rfl, by assumption, by omega, by omega⟩
        · simp
    obtain ⟨hen, hmay, h32, h4⟩ := hall
    have dca : (0 ≤ ((encO l).1.length : Int)) = True := by simp
    have dcb : (encO l).1.length * 2 ≤ 140737488355328 := by rw [hen]; simp; omega
    repeat (first | (with_reducible first | refine AW.seq ?_ | refine AW.block ?_ | refine AW.skip ?_ | refine AW.ret ?_ | refine AW.exit ?_ | refine AW.reg hT ?_) | ((with_reducible refine AW.cond_true ?_ ?_); · rfl) | ((with_reducible refine AW.cond_false ?_ ?_); · rfl) | simp (maxSteps := 3000000) (maxDischargeDepth := 12) only [seval,push_cast,appendX,Try.results21,dcml,xt1.2,xt1.ltT,xt1.leT,dce,dca,dcb])
    refine AW.loop (enI l σ) (m := l.length + 1) ⟨0, .sl σ1.n 0 0 0, rfl, Nat.zero_le _, .inr ⟨σ1.n, [], rfl, Heap.get_push, Nat.le_refl _, rfl⟩, by simp [tOf]; exact xt1.1, xt1.push _, by (simp only [push_cast, TellsL, tells_any, tells_refl])⟩ ?_
    clear dca dcb dce
    rintro m ts σ3 ⟨i, d, rfl, hil, hh, hnew, xt3, hts⟩
    refine AW.told hts ?_
    clear hts
    by_cases hi : i < l.length
    · have dci : decide ((i : Int) < (l.length : Int)) = true := by simp; omega
      have dci2 : ((i : Int) < (l.length : Int)) = True := by simp; omega
      have dci0 : ((0 : Int) ≤ (i : Int)) = True := by simp
      obtain ⟨x, hx⟩ : ∃ x, x = l[i] := ⟨_, rfl⟩
      have hmx : mayO x := hmay x (by rw [hx]; exact List.getElem_mem _)
      have hlen := hmx.2.2.1
      have dcel : (l.map eO)[i]? = some (eO x) := by rw [List.getElem?_map, List.getElem?_eq_getElem hi, hx]; rfl
      rw [eO_eq] at dcel
      have dcw : IntKind.i64.wrap ((i : Int) + 1) = (i : Int) + 1 := wrap_i64 (by omega) (by omega)
      have dcb : (bytesD x.f2).length = x.f2.length := bytesD_length _
      have dcw2 : IntKind.i64.wrap (4 + (x.f2.length : Int)) = 4 + (x.f2.length : Int) := wrap_i64 (by omega) (by omega)
      have dcw3 : IntKind.u64.wrap (4 + (x.f2.length : Int)) = 4 + (x.f2.length : Int) := wrap_u64 (by omega) (by omega)
      have dcw4 : IntKind.u8.wrap x.f0 = x.f0 := wrap_u8 hmx.1.1 (by have := hmx.1.2; omega)
      have dcw5 : IntKind.u8.wrap x.f1 = x.f1 := wrap_u8 hmx.2.1.1 (by have := hmx.2.1.2; omega)
      have hbt : (obsB (l.take i)).length ≤ 1000000 := by
        have := obsB_bound (l := l.take i) (fun y hy => hmay y (List.mem_of_mem_take hy))
        rw [List.length_take] at this; omega
      repeat (first | (with_reducible first | refine AW.seq ?_ | refine AW.block ?_ | refine AW.skip ?_ | refine AW.ret ?_ | refine AW.exit ?_ | refine AW.reg hT ?_) | ((with_reducible refine AW.cond_true ?_ ?_); · rfl) | ((with_reducible refine AW.cond_false ?_ ?_); · rfl) | simp (maxSteps := 3000000) (maxDischargeDepth := 12) only [seval,push_cast,appendX,Try.results21,dcml,xt1.2,xt1.ltT,xt1.leT,xt3.2,xt3.ltT,xt3.leT,dci,dci2,dci0,dcel,dcw,dcb,dcw2,dcw3,dcw4,dcw5])
      refine AOpsL.call (first := []) (cap := []) hT rfl rfl rfl fn22 rfl (ACalls.mono (put_ok _ d (obsB (l.take i)) 2 (4 + (x.f2.length : Int)) ((hh.frame (X := []) (by repeat (first | exact Ext.refl _ _ | assumption | refine Ext.push ?_ _ | ((refine Ext.set ?_ ?_ _); rotate_left; · (simp (maxSteps := 3000000) (maxDischargeDepth := 12) only [push_cast, appendX, Nat.reduceAdd, Nat.reduceEqDiff, Nat.reduceLT, Nat.reduceLeDiff, reduceIte, reduceCtorEq, dcml, xt1.2, xt1.ltT, xt1.leT, xt3.2, xt3.ltT, xt3.leT, dci, dci2, dci0, dcel, dcw, dcb, dcw2, dcw3, dcw4, dcw5])) | ((refine Ext.then1 (by assumption) ?_ ?_); rotate_left; · (intro p hp _; first | assumption | exact List.mem_cons_of_mem _ hp | (cases hp; done) | (simp at hp; subst hp; simp))))) (by simp)).src) (hold_len hh) hbt (by decide) (by decide) (by omega) (fun _ => by omega)) ?_)
      rintro y σ4 ⟨d4, rfl, hh4, hnew4, xt4⟩
      have hdl := digits_length 2 (4 + (x.f2.length : Int))
      have xt5 : Ext [] σ σ4 := by repeat (first | exact Ext.refl _ _ | assumption | refine Ext.push ?_ _ | ((refine Ext.set ?_ ?_ _); rotate_left; · (simp (maxSteps := 3000000) (maxDischargeDepth := 12) only [push_cast, appendX, Nat.reduceAdd, Nat.reduceEqDiff, Nat.reduceLT, Nat.reduceLeDiff, reduceIte, reduceCtorEq, dcml, xt1.2, xt1.ltT, xt1.leT, xt3.2, xt3.ltT, xt3.leT, dci, dci2, dci0, dcel, dcw, dcb, dcw2, dcw3, dcw4, dcw5, xt4.2, xt4.ltT, xt4.leT])) | ((refine Ext.then1 (by assumption) ?_ ?_); rotate_left; · (intro p hp _; first | assumption | exact List.mem_cons_of_mem _ hp | (cases hp; done) | (simp at hp; subst hp; simp))))
      obtain ⟨d5, σ5, dnapp5, hh5, hnew5, xt6, he5⟩ := Hold.appM (ty := 23) (x := .sl σ4.n 0 2 2) (xs := [[.sc (.int .u8 x.f0)], [.sc (.int .u8 x.f1)]]) (σ := σ4.push ⟨[[.sc (.int .u8 x.f0)], [.sc (.int .u8 x.f1)]], 5, true⟩) (hh4.frame (X := []) (by repeat (first | exact Ext.refl _ _ | assumption | refine Ext.push ?_ _ | ((refine Ext.set ?_ ?_ _); rotate_left; · (simp (maxSteps := 3000000) (maxDischargeDepth := 12) only [push_cast, appendX, Nat.reduceAdd, Nat.reduceEqDiff, Nat.reduceLT, Nat.reduceLeDiff, reduceIte, reduceCtorEq, dcml, xt1.2, xt1.ltT, xt1.leT, xt3.2, xt3.ltT, xt3.leT, dci, dci2, dci0, dcel, dcw, dcb, dcw2, dcw3, dcw4, dcw5, xt4.2, xt4.ltT, xt4.leT, xt5.2, xt5.ltT, xt5.leT])) | ((refine Ext.then1 (by assumption) ?_ ?_); rotate_left; · (intro p hp _; first | assumption | exact List.mem_cons_of_mem _ hp | (cases hp; done) | (simp at hp; subst hp; simp))))) (by simp)) (fun q hq => Nat.le_trans xt3.1 (by have := hnew4 q hq; simp at this; omega)) (xt5.push _) rfl rfl (by decide) (by simp (maxSteps := 3000000) (maxDischargeDepth := 12) only [seval,push_cast,appendX,sliceD,dcml,xt1.2,xt1.ltT,xt1.leT,xt3.2,xt3.ltT,xt3.leT,dci,dci2,dci0,dcel,dcw,dcb,dcw2,dcw3,dcw4,dcw5,xt4.2,xt4.ltT,xt4.leT,xt5.2,xt5.ltT,xt5.leT]) rfl (by rw [bytesD_length, List.length_append, hdl]; simp; omega)
      have hob : obsB (l.take (i + 1)) = obsB (l.take i) ++ digits 2 (4 + (x.f2.length : Int)) ++ [x.f0, x.f1] ++ x.f2 := by
        rw [obsB_take hi, ← hx, obB, Int.add_comm (x.f2.length : Int) 4]; simp
      obtain ⟨d6, σ6, dnapp6, hh6, hnew6, xt7, he6⟩ := Hold.appM (ty := 23) (x := .imm (bytesD x.f2)) hh5 hnew5 xt6 rfl rfl (by decide) rfl (bytes_all _) (by simp only [List.length_append, bytesD_length, hdl, List.length_cons, List.length_nil]; omega)
      have dnb5 : σ5.get σ3.n = some ⟨[[.sc (.int .i64 x.f0), .sc (.int .i64 x.f1), .imm (bytesD x.f2)]], 81, true⟩ := by
        refine he5.get ?_ (fun hm => ?_)
        · simp (maxSteps := 3000000) (maxDischargeDepth := 12) only [push_cast, appendX, Nat.reduceAdd, Nat.reduceEqDiff, Nat.reduceLT, Nat.reduceLeDiff, reduceIte, reduceCtorEq, dcml, xt1.2, xt1.ltT, xt1.leT, xt3.2, xt3.ltT, xt3.leT, dci, dci2, dci0, dcel, dcw, dcb, dcw2, dcw3, dcw4, dcw5, xt4.2, xt4.ltT, xt4.leT, xt5.2, xt5.ltT, xt5.leT, ↓dnapp5, xt6.2, xt6.ltT, xt6.leT, ↓dnapp6, xt7.2, xt7.ltT, xt7.leT]
        · have := hnew4 _ hm; rw [Heap.n_set, Heap.n_push] at this; omega
      repeat (first | (with_reducible first | refine AW.seq ?_ | refine AW.block ?_ | refine AW.skip ?_ | refine AW.ret ?_ | refine AW.exit ?_ | refine AW.reg hT ?_) | ((with_reducible refine AW.cond_true ?_ ?_); · rfl) | ((with_reducible refine AW.cond_false ?_ ?_); · rfl) | simp (maxSteps := 3000000) (maxDischargeDepth := 12) only [seval,push_cast,appendX,Try.results21,dcml,xt1.2,xt1.ltT,xt1.leT,xt3.2,xt3.ltT,xt3.leT,dci,dci2,dci0,dcel,dcw,dcb,dcw2,dcw3,dcw4,dcw5,xt4.2,xt4.ltT,xt4.leT,xt5.2,xt5.ltT,xt5.leT,↓dnapp5,xt6.2,xt6.ltT,xt6.leT,↓dnapp6,xt7.2,xt7.ltT,xt7.leT,↓dnb5])
      refine ⟨l.length + 1 - (i + 1), by omega, i + 1, d6, rfl, hi, ?_, hnew6, xt7, by (simp only [push_cast, TellsL, tells_any, tells_refl])⟩
      rw [hob, bytesD_append, bytesD_append]; exact hh6
    · have dci : decide ((i : Int) < (l.length : Int)) = false := by simp; omega
      have he : i = l.length := by omega
      subst he
      rw [List.take_length] at hh
      have dncl := hh.cells
      have dnlf := hh.leaf
      repeat (first | (with_reducible first | refine AW.seq ?_ | refine AW.block ?_ | refine AW.skip ?_ | refine AW.ret ?_ | refine AW.exit ?_ | refine AW.reg hT ?_) | ((with_reducible refine AW.cond_true ?_ ?_); · rfl) | ((with_reducible refine AW.cond_false ?_ ?_); · rfl) | simp (maxSteps := 3000000) (maxDischargeDepth := 12) only [seval,push_cast,appendX,Try.results21,dcml,xt1.2,xt1.ltT,xt1.leT,xt3.2,xt3.ltT,xt3.leT,dci,↓dncl,↓dnlf])
      exact ⟨d, by rw [hen], by rw [hen]; exact hh, hnew, xt3⟩
  · have dce : ((encO l).2 == 0) = false := by simpa using he
    repeat (first | (with_reducible first | refine AW.seq ?_ | refine AW.block ?_ | refine AW.skip ?_ | refine AW.ret ?_ | refine AW.exit ?_ | refine AW.reg hT ?_) | ((with_reducible refine AW.cond_true ?_ ?_); · rfl) | ((with_reducible refine AW.cond_false ?_ ?_); · rfl) | simp (maxSteps := 3000000) (maxDischargeDepth := 12) only [seval,push_cast,appendX,Try.results21,dcml,xt1.2,xt1.ltT,xt1.leT,dce])
    refine ⟨_, rfl, ?_, by simp [tOf], xt1⟩
    have : (encO l).1 = [] := by
      revert he; unfold encO
      split
      · simp
      · split
        · split <;> simp
        · simp
    rw [this]; exact Hold.nil _ _
def decGo : Nat → List Int → List Ob → List Ob × Int
  | 0, _, _ => ([], 0)
  | _ + 1, [], acc => (acc, 0)
  | f + 1, a :: b :: c :: t :: r, acc => if acc.length = 32 then ([], 3) else if num [a, b] < 4 ∨ num [a, b] % 4 ≠ 0 then ([], 5) else if (r.length : Int) < num [a, b] - 4 then ([], 4) else decGo f (r.drop (num [a, b] - 4).toNat) (acc ++ [⟨c, t, r.take (num [a, b] - 4).toNat⟩])
  | _ + 1, _ :: _, acc => if acc.length = 32 then ([], 3) else ([], 4)
def decO (b : List Int) : List Ob × Int := if 4096 < b.length then ([], 3) else decGo (b.length + 1) b []
theorem decGo_short {f : Nat} {r : List Int} {acc : List Ob} (h0 : r ≠ []) (h : r.length < 4) : decGo (f + 1) r acc = if acc.length = 32 then ([], 3) else ([], 4) := by
  match r with
  | [] => exact absurd rfl h0
  | [a] => rfl
  | [a, b] => rfl
  | [a, b, c] => rfl
  | a :: b :: c :: d :: r => simp at h; omega
theorem tk_yes {l : List Int} {n : Nat} (h : n ≤ l.length) : tk l 0 n true = (l.drop n, 0, l.take n) := by
  have : ¬ (l.length : Int) < n := by omega
  simp [tk, this]
theorem num1 (c : Int) : num [c] = c := by simp [num]
theorem num2 (a b : Int) : num [a, b] = a * 256 + b := by simp [num]
def deI (b : List Int) (p : Nat) (σ0 : Heap) (m : Nat) (ts : List DV) (σ : Heap) : Prop := ∃ f r acc d, m = r.length ∧ decO b = decGo (f + 1) r acc ∧ r.length ≤ f ∧ Octs r ∧ acc.length ≤ 32 ∧ r.length ≤ 4096 ∧ σ.get p = some (ROb r 0) ∧ Hold σ d 81 (acc.map eO) ∧ (∀ q ∈ tOf d, σ0.n ≤ q) ∧ Ext [] σ0 σ ∧ TellsL ts (.any :: .any :: .sc (.slice none 0 0) :: .sc (.int .i64 0) :: d :: .ptr p 0 0 1 :: .any :: .any :: .any :: .any :: .any :: .any :: .any :: .any :: .any :: .any :: .any :: .any :: .any :: .any :: .any :: .any :: .any :: .any :: .any :: .any :: .any :: .any :: .any :: .any :: .any :: .any :: .any :: .any :: .any :: .any :: .any :: .any :: .any :: .any :: .any :: .any :: .any :: .any :: .any :: .any :: .any :: .any :: .any :: .any :: .any :: .any :: .any :: .any :: .any :: .any :: [])
theorem toImmP {P : Program} {σ : Heap} {f : FuncId} {args : List DV} {e : TypeId} {els : List (List DV)} {y : Value} (h : ACalls P f args σ (fun x σ' => ∃ d, x = .tup [d, .sc y] ∧ Hold σ' d e els ∧ (∀ q ∈ tOf d, σ.n ≤ q) ∧ Ext [] σ σ')) : ACalls P f args σ (fun x σ' => x = .tup [.imm els, .sc y] ∧ Ext [] σ σ') := by
  refine ACalls.toImmG (e := e) (els := els) (fun d => .tup [d, .sc y]) ?_ ?_ h
  · intro t m es d d' h
    obtain ⟨h1, h2⟩ := FZL.spec (t := t) (m := m) (els := es) (l := [d, .sc y]) (l' := [d', .sc y]) ⟨h, .keep _, trivial⟩
    exact .tup h1 h2
  · exact Tells.tup ⟨Tells.nil, Tells.refl _, trivial⟩
theorem decode_ok (σ : Heap) (b : List Int) (ho : Octs b) (hb : b.length ≤ 1000000) : ACalls Try.prog 25 [.imm (bytesD b)] σ (fun x σ' => x = .tup [.imm ((decO b).1.map eO), .sc (.int .i64 (decO b).2)] ∧ Ext [] σ σ') := by
  have dcml : (bytesD b).length = b.length := bytesD_length _
  refine toImmP (e := 81) ?_
  refine ACalls.code hT Try.func25 rfl ?_
  simp only [Try.ntmps25, List.length_cons, List.length_nil, Nat.reduceSub, Nat.reduceAdd, List.replicate, List.cons_append, List.nil_append]
  by_cases h4 : 4096 < b.length
  · have dc1 : decide (4096 < (b.length : Int)) = true := by simp; omega
    repeat (first | (with_reducible first | refine AW.seq ?_ | refine AW.block ?_ | refine AW.skip ?_ | refine AW.ret ?_ | refine AW.exit ?_ | refine AW.reg hT ?_) | ((with_reducible refine AW.cond_true ?_ ?_); · rfl) | ((with_reducible refine AW.cond_false ?_ ?_); · rfl) | simp (maxSteps := 3000000) (maxDischargeDepth := 12) only [seval,push_cast,appendX,Try.results25,dcml,dc1])
    have : decO b = ([], 3) := by rw [decO, if_pos h4]
    exact ⟨_, by rw [this], by rw [this]; exact Hold.nil _ _, by simp [tOf], Ext.refl _ _⟩
  · have dc1 : decide (4096 < (b.length : Int)) = false := by simp; omega
    repeat (first | (with_reducible first | refine AW.seq ?_ | refine AW.block ?_ | refine AW.skip ?_ | refine AW.ret ?_ | refine AW.exit ?_ | refine AW.reg hT ?_) | ((with_reducible refine AW.cond_true ?_ ?_); · rfl) | ((with_reducible refine AW.cond_false ?_ ?_); · rfl) | simp (maxSteps := 3000000) (maxDischargeDepth := 12) only [seval,push_cast,appendX,Try.results25,dcml,dc1])
    refine AOpsL.call (first := []) (cap := []) hT rfl rfl rfl fn35 rfl (ACalls.mono (rdnew_ok _ (.imm (bytesD b)) b (Src.imm _ _) hb) ?_)
    rintro x σ1 ⟨p, rfl, hpn, gtp, xt1⟩
    repeat (first | (with_reducible first | refine AW.seq ?_ | refine AW.block ?_ | refine AW.skip ?_ | refine AW.ret ?_ | refine AW.exit ?_ | refine AW.reg hT ?_) | ((with_reducible refine AW.cond_true ?_ ?_); · rfl) | ((with_reducible refine AW.cond_false ?_ ?_); · rfl) | simp (maxSteps := 3000000) (maxDischargeDepth := 12) only [seval,push_cast,appendX,Try.results25,dcml,dc1,gtp,Heap.lt gtp,xt1.2,xt1.ltT,xt1.leT])
    refine AW.loop (deI b p σ) (m := b.length) ⟨b.length, b, [], .sc (.slice none 0 0), rfl, by rw [decO, if_neg h4], Nat.le_refl _, ho, by simp, by omega, gtp, Hold.nil _ _, by simp [tOf], xt1, by (simp only [push_cast, TellsL, tells_any, tells_refl])⟩ ?_
    clear gtp xt1
    rintro m ts σ3 ⟨f, r, acc, d, rfl, hdec, hrf, hor, hacc, hr4, gtr, hh, hnew, xt3, hts⟩
    refine AW.told hts ?_
    clear hts
    have hpd : p ∉ tOf d := hh.ne gtr (by simp [ROb])
    repeat (first | (with_reducible first | refine AW.seq ?_ | refine AW.block ?_ | refine AW.skip ?_ | refine AW.ret ?_ | refine AW.exit ?_ | refine AW.reg hT ?_) | ((with_reducible refine AW.cond_true ?_ ?_); · rfl) | ((with_reducible refine AW.cond_false ?_ ?_); · rfl) | simp (maxSteps := 3000000) (maxDischargeDepth := 12) only [seval,push_cast,appendX,Try.results25,dcml,dc1,gtr,Heap.lt gtr,xt3.2,xt3.ltT,xt3.leT])
    refine AOpsL.call (first := []) (cap := []) hT rfl rfl rfl fn36 rfl (ACalls.mono (left_ok _ gtr) ?_)
    rintro x σ' ⟨rfl, rfl⟩
    by_cases hr0 : r = []
    · subst hr0
      have dcr : decide (0 < (([] : List Int).length : Int)) = false := rfl
      have dncl := hh.cells
      have dnlf := hh.leaf
      repeat (first | (with_reducible first | refine AW.seq ?_ | refine AW.block ?_ | refine AW.skip ?_ | refine AW.ret ?_ | refine AW.exit ?_ | refine AW.reg hT ?_) | ((with_reducible refine AW.cond_true ?_ ?_); · rfl) | ((with_reducible refine AW.cond_false ?_ ?_); · rfl) | simp (maxSteps := 3000000) (maxDischargeDepth := 12) only [seval,push_cast,appendX,Try.results25,List.length_nil,Int.lt_irrefl,cast0,dcml,dc1,gtr,Heap.lt gtr,xt3.2,xt3.ltT,xt3.leT,dcr,↓dncl,↓dnlf])
      rw [hdec]
      exact ⟨d, rfl, hh, hnew, xt3⟩
    · have hrl : 0 < r.length := List.length_pos_iff.2 hr0
      have dcr : decide (0 < (r.length : Int)) = true := by simp; omega
      have dnl := lenH (ty := 60) hh rfl
      by_cases ha : acc.length = 32
      · have dca : ((acc.length : Int) == 32) = true := by simp; omega
        repeat (first | (with_reducible first | refine AW.seq ?_ | refine AW.block ?_ | refine AW.skip ?_ | refine AW.ret ?_ | refine AW.exit ?_ | refine AW.reg hT ?_) | ((with_reducible refine AW.cond_true ?_ ?_); · rfl) | ((with_reducible refine AW.cond_false ?_ ?_); · rfl) | simp (maxSteps := 3000000) (maxDischargeDepth := 12) only [seval,push_cast,appendX,Try.results25,dcml,dc1,gtr,Heap.lt gtr,xt3.2,xt3.ltT,xt3.leT,dcr,↓dnl,dca])
        have : decO b = ([], 3) := by
          rw [hdec]
          by_cases h : r.length < 4
          · rw [decGo_short hr0 h, if_pos ha]
          · match r with
            | a :: b :: c :: t :: r => rw [decGo, if_pos ha]
            | [] | [_] | [_, _] | [_, _, _] => simp at h
        exact ⟨_, by rw [this], by rw [this]; exact Hold.nil _ _, by simp [tOf], xt3⟩
      · have dca : ((acc.length : Int) == 32) = false := by simp; omega
        repeat (first | (with_reducible first | refine AW.seq ?_ | refine AW.block ?_ | refine AW.skip ?_ | refine AW.ret ?_ | refine AW.exit ?_ | refine AW.reg hT ?_) | ((with_reducible refine AW.cond_true ?_ ?_); · rfl) | ((with_reducible refine AW.cond_false ?_ ?_); · rfl) | simp (maxSteps := 3000000) (maxDischargeDepth := 12) only [seval,push_cast,appendX,Try.results25,dcml,dc1,gtr,Heap.lt gtr,xt3.2,xt3.ltT,xt3.leT,dcr,↓dnl,dca])
        refine AOpsL.call (first := []) (cap := []) hT rfl rfl rfl fn36 rfl (ACalls.mono (left_ok _ gtr) ?_)
        rintro x σ' ⟨rfl, rfl⟩
        by_cases h : r.length < 4
        · have dcs : decide ((r.length : Int) < 4) = true := by simp; omega
          repeat (first | (with_reducible first | refine AW.seq ?_ | refine AW.block ?_ | refine AW.skip ?_ | refine AW.ret ?_ | refine AW.exit ?_ | refine AW.reg hT ?_) | ((with_reducible refine AW.cond_true ?_ ?_); · rfl) | ((with_reducible refine AW.cond_false ?_ ?_); · rfl) | simp (maxSteps := 3000000) (maxDischargeDepth := 12) only [seval,push_cast,appendX,Try.results25,dcml,dc1,gtr,Heap.lt gtr,xt3.2,xt3.ltT,xt3.leT,dcr,↓dnl,dca,dcs])
          have : decO b = ([], 4) := by rw [hdec, decGo_short hr0 h, if_neg ha]
          exact ⟨_, by rw [this], by rw [this]; exact Hold.nil _ _, by simp [tOf], xt3⟩
        · have dcs : decide ((r.length : Int) < 4) = false := by simp; omega
          repeat (first | (with_reducible first | refine AW.seq ?_ | refine AW.block ?_ | refine AW.skip ?_ | refine AW.ret ?_ | refine AW.exit ?_ | refine AW.reg hT ?_) | ((with_reducible refine AW.cond_true ?_ ?_); · rfl) | ((with_reducible refine AW.cond_false ?_ ?_); · rfl) | simp (maxSteps := 3000000) (maxDischargeDepth := 12) only [seval,push_cast,appendX,Try.results25,dcml,dc1,gtr,Heap.lt gtr,xt3.2,xt3.ltT,xt3.leT,dcr,↓dnl,dca,dcs])
          obtain ⟨a0, a1, a2, a3, r, rfl⟩ : ∃ a0 a1 a2 a3 r', r = a0 :: a1 :: a2 :: a3 :: r' := by
            match r with
            | a :: b :: c :: t :: r => exact ⟨_, _, _, _, _, rfl⟩
            | [] | [_] | [_, _] | [_, _, _] => simp at h
          clear h hr0 hrl dcr dcs
          have ho0 := hor a0 (by simp)
          have ho1 := hor a1 (by simp)
          have ho2 := hor a2 (by simp)
          have ho3 := hor a3 (by simp)
          have hor' : Octs r := fun x hx => hor x (by simp [hx])
          obtain ⟨N, hN⟩ : ∃ N, N = num [a0, a1] := ⟨_, rfl⟩
          have hN0 : 0 ≤ N ∧ N < 65536 := by rw [hN, num2]; omega
          refine AOpsL.call (first := []) (cap := []) hT rfl rfl rfl fn37 rfl (ACalls.mono (uint_ok _ 2 gtr hor) ?_)
          rintro x σ4 ⟨rfl, gt4, xt4⟩
          rw [show decide ((1 : Int) ≤ 2 ∧ (2 : Int) ≤ 8) = true from rfl, show (2 : Int) = ((2 : Nat) : Int) from rfl, tk_yes (by simp)] at gt4 ⊢
          simp only [List.drop_succ_cons, List.drop_zero, List.take_succ_cons, List.take_zero] at gt4 ⊢
          rw [← hN]
          have dcw : IntKind.i64.wrap N = N := wrap_i64 (by omega) (by omega)
          have hdec2 := hdec
          rw [decGo, if_neg ha, ← hN] at hdec2
          by_cases hbad : N < 4 ∨ N % 4 ≠ 0
          · rw [if_pos hbad] at hdec2
            by_cases hN4 : N < 4
            · have dcn : decide (N < 4) = true := by simpa using hN4
              repeat (first | (with_reducible first | refine AW.seq ?_ | refine AW.block ?_ | refine AW.skip ?_ | refine AW.ret ?_ | refine AW.exit ?_ | refine AW.reg hT ?_) | ((with_reducible refine AW.cond_true ?_ ?_); · rfl) | ((with_reducible refine AW.cond_false ?_ ?_); · rfl) | simp (maxSteps := 3000000) (maxDischargeDepth := 12) only [seval,push_cast,appendX,Try.results25,dcml,dc1,gtr,Heap.lt gtr,xt3.2,xt3.ltT,xt3.leT,↓dnl,dca,gt4,Heap.lt gt4,xt4.2,xt4.ltT,xt4.leT,dcw,dcn])
              refine ⟨_, by rw [hdec2], by rw [hdec2]; exact Hold.nil _ _, by simp [tOf], xt3.then xt4 (by simp; omega)⟩
            · have dcn : decide (N < 4) = false := by simpa using hN4
              have dcm : (N.tmod 4 == 0) = false := by rw [Int.tmod_eq_emod_of_nonneg hN0.1]; simp; omega
              repeat (first | (with_reducible first | refine AW.seq ?_ | refine AW.block ?_ | refine AW.skip ?_ | refine AW.ret ?_ | refine AW.exit ?_ | refine AW.reg hT ?_) | ((with_reducible refine AW.cond_true ?_ ?_); · rfl) | ((with_reducible refine AW.cond_false ?_ ?_); · rfl) | simp (maxSteps := 3000000) (maxDischargeDepth := 12) only [seval,push_cast,appendX,Try.results25,dcml,dc1,gtr,Heap.lt gtr,xt3.2,xt3.ltT,xt3.leT,↓dnl,dca,gt4,Heap.lt gt4,xt4.2,xt4.ltT,xt4.leT,dcw,dcn,dcm])
              refine ⟨_, by rw [hdec2], by rw [hdec2]; exact Hold.nil _ _, by simp [tOf], xt3.then xt4 (by simp; omega)⟩
          · rw [if_neg hbad] at hdec2
            have dcn : decide (N < 4) = false := by simp; omega
            have dcm : (N.tmod 4 == 0) = true := by rw [Int.tmod_eq_emod_of_nonneg hN0.1]; simp; omega
            have dcw4 : IntKind.i64.wrap (N - 4) = N - 4 := wrap_i64 (by omega) (by omega)
            have dcw2 : IntKind.i64.wrap a2 = a2 := wrap_i64 (by omega) (by omega)
            have dcw3 : IntKind.i64.wrap a3 = a3 := wrap_i64 (by omega) (by omega)
            have hpl := Heap.lt gtr
            have hx34 := xt4.1
            have hd4 : ∀ q ∈ tOf d, q < σ'.n := hh.lt
            repeat (first | (with_reducible first | refine AW.seq ?_ | refine AW.block ?_ | refine AW.skip ?_ | refine AW.ret ?_ | refine AW.exit ?_ | refine AW.reg hT ?_) | ((with_reducible refine AW.cond_true ?_ ?_); · rfl) | ((with_reducible refine AW.cond_false ?_ ?_); · rfl) | simp (maxSteps := 3000000) (maxDischargeDepth := 12) only [seval,push_cast,appendX,Try.results25,dcml,dc1,gtr,Heap.lt gtr,xt3.2,xt3.ltT,xt3.leT,↓dnl,dca,gt4,Heap.lt gt4,xt4.2,xt4.ltT,xt4.leT,dcw,dcn,dcm,dcw4,dcw2,dcw3])
            refine AOpsL.call (first := []) (cap := []) hT rfl rfl rfl fn37 rfl (ACalls.mono (uint_ok (l := a2 :: a3 :: r) (e := 0) _ 1 (by simp (maxSteps := 3000000) (maxDischargeDepth := 12) only [push_cast, appendX, Nat.reduceAdd, Nat.reduceEqDiff, Nat.reduceLT, Nat.reduceLeDiff, reduceIte, reduceCtorEq, dcml, dc1, gtr, Heap.lt gtr, xt3.2, xt3.ltT, xt3.leT, ↓dnl, dca, gt4, Heap.lt gt4, xt4.2, xt4.ltT, xt4.leT, dcw, dcn, dcm, dcw4, dcw2, dcw3]) (fun x hx => hor x (by simp at hx ⊢; rcases hx with h | h | h <;> simp [h]))) ?_)
            rintro x σ5 ⟨rfl, gt5, xt5⟩
            rw [show decide ((1 : Int) ≤ 1 ∧ (1 : Int) ≤ 8) = true from rfl, show tk (a2 :: a3 :: r) 0 1 true = (a3 :: r, 0, [a2]) from tk_yes (n := 1) (by simp)] at gt5 ⊢
            simp only [num1] at gt5 ⊢
            have hx45 := xt5.1
            rw [Heap.n_push] at hx45
            repeat (first | (with_reducible first | refine AW.seq ?_ | refine AW.block ?_ | refine AW.skip ?_ | refine AW.ret ?_ | refine AW.exit ?_ | refine AW.reg hT ?_) | ((with_reducible refine AW.cond_true ?_ ?_); · rfl) | ((with_reducible refine AW.cond_false ?_ ?_); · rfl) | simp (maxSteps := 3000000) (maxDischargeDepth := 12) only [seval,push_cast,appendX,Try.results25,dcml,dc1,gtr,Heap.lt gtr,xt3.2,xt3.ltT,xt3.leT,↓dnl,dca,gt4,Heap.lt gt4,xt4.2,xt4.ltT,xt4.leT,dcw,dcn,dcm,dcw4,dcw2,dcw3,gt5,Heap.lt gt5,xt5.2,xt5.ltT,xt5.leT])
            refine AOpsL.call (first := []) (cap := []) hT rfl rfl rfl fn37 rfl (ACalls.mono (uint_ok (l := a3 :: r) (e := 0) _ 1 (by simp (maxSteps := 3000000) (maxDischargeDepth := 12) only [push_cast, appendX, Nat.reduceAdd, Nat.reduceEqDiff, Nat.reduceLT, Nat.reduceLeDiff, reduceIte, reduceCtorEq, dcml, dc1, gtr, Heap.lt gtr, xt3.2, xt3.ltT, xt3.leT, ↓dnl, dca, gt4, Heap.lt gt4, xt4.2, xt4.ltT, xt4.leT, dcw, dcn, dcm, dcw4, dcw2, dcw3, gt5, Heap.lt gt5, xt5.2, xt5.ltT, xt5.leT]) (fun x hx => hor x (by simp at hx ⊢; rcases hx with h | h <;> simp [h]))) ?_)
            rintro x σ6 ⟨rfl, gt6, xt6⟩
            rw [show decide ((1 : Int) ≤ 1 ∧ (1 : Int) ≤ 8) = true from rfl, show tk (a3 :: r) 0 1 true = (r, 0, [a3]) from tk_yes (n := 1) (by simp)] at gt6 ⊢
            simp only [num1] at gt6 ⊢
            have hx56 := xt6.1
            rw [Heap.n_set] at hx56
            repeat (first | (with_reducible first | refine AW.seq ?_ | refine AW.block ?_ | refine AW.skip ?_ | refine AW.ret ?_ | refine AW.exit ?_ | refine AW.reg hT ?_) | ((with_reducible refine AW.cond_true ?_ ?_); · rfl) | ((with_reducible refine AW.cond_false ?_ ?_); · rfl) | simp (maxSteps := 3000000) (maxDischargeDepth := 12) only [seval,push_cast,appendX,Try.results25,dcml,dc1,gtr,Heap.lt gtr,xt3.2,xt3.ltT,xt3.leT,↓dnl,dca,gt4,Heap.lt gt4,xt4.2,xt4.ltT,xt4.leT,dcw,dcn,dcm,dcw4,dcw2,dcw3,gt5,Heap.lt gt5,xt5.2,xt5.ltT,xt5.leT,gt6,Heap.lt gt6,xt6.2,xt6.ltT,xt6.leT])
            refine AOpsL.call (first := []) (cap := []) hT rfl rfl rfl fn38 rfl (ACalls.mono (bytes_ok (l := r) (e := 0) _ (N - 4) (by simp (maxSteps := 3000000) (maxDischargeDepth := 12) only [push_cast, appendX, Nat.reduceAdd, Nat.reduceEqDiff, Nat.reduceLT, Nat.reduceLeDiff, reduceIte, reduceCtorEq, dcml, dc1, gtr, Heap.lt gtr, xt3.2, xt3.ltT, xt3.leT, ↓dnl, dca, gt4, Heap.lt gt4, xt4.2, xt4.ltT, xt4.leT, dcw, dcn, dcm, dcw4, dcw2, dcw3, gt5, Heap.lt gt5, xt5.2, xt5.ltT, xt5.leT, gt6, Heap.lt gt6, xt6.2, xt6.ltT, xt6.leT])) ?_)
            rintro x σ7 ⟨rfl, gt7, xt7⟩
            rw [show decide ((0 : Int) ≤ N - 4) = true from by simp; omega] at gt7 ⊢
            have hx67 := xt7.1
            rw [Heap.n_set] at hx67
            obtain ⟨k, hk⟩ : ∃ k : Nat, N - 4 = (k : Int) := ⟨(N - 4).toNat, by omega⟩
            rw [hk] at gt7 hdec2 ⊢
            have xtA : Ext [] σ σ7 := by
              refine (((xt3.then xt4 (by simp; omega)).push _).then xt5 (by simp; omega)).set ?_ _ |>.then xt6 (by simp; omega) |>.set ?_ _ |>.then xt7 (by simp; omega)
              · left; have := xt3.1; omega
              · left; have := xt3.1; omega
            by_cases hkr : r.length < k
            · have hkr' : ((r.length : Int) < (k : Int)) := by omega
              rw [if_pos hkr'] at hdec2
              rw [show tk r 0 (k : Int) true = (r, 4, []) from by simp [tk, hkr]] at gt7 ⊢
              repeat (first | (with_reducible first | refine AW.seq ?_ | refine AW.block ?_ | refine AW.skip ?_ | refine AW.ret ?_ | refine AW.exit ?_ | refine AW.reg hT ?_) | ((with_reducible refine AW.cond_true ?_ ?_); · rfl) | ((with_reducible refine AW.cond_false ?_ ?_); · rfl) | simp (maxSteps := 3000000) (maxDischargeDepth := 12) only [seval,push_cast,appendX,Try.results25,dcml,dc1,gtr,Heap.lt gtr,xt3.2,xt3.ltT,xt3.leT,↓dnl,dca,gt4,Heap.lt gt4,xt4.2,xt4.ltT,xt4.leT,dcw,dcn,dcm,dcw4,dcw2,dcw3,gt5,Heap.lt gt5,xt5.2,xt5.ltT,xt5.leT,gt6,Heap.lt gt6,xt6.2,xt6.ltT,xt6.leT,gt7,Heap.lt gt7,xt7.2,xt7.ltT,xt7.leT,xtA.2,xtA.ltT,xtA.leT])
              refine AOpsL.call (first := []) (cap := []) hT rfl rfl rfl fn39 rfl (ACalls.mono (err_ok (l := r) (e := 4) _ (by simp (maxSteps := 3000000) (maxDischargeDepth := 12) only [push_cast, appendX, Nat.reduceAdd, Nat.reduceEqDiff, Nat.reduceLT, Nat.reduceLeDiff, reduceIte, reduceCtorEq, dcml, dc1, gtr, Heap.lt gtr, xt3.2, xt3.ltT, xt3.leT, ↓dnl, dca, gt4, Heap.lt gt4, xt4.2, xt4.ltT, xt4.leT, dcw, dcn, dcm, dcw4, dcw2, dcw3, gt5, Heap.lt gt5, xt5.2, xt5.ltT, xt5.leT, gt6, Heap.lt gt6, xt6.2, xt6.ltT, xt6.leT, gt7, Heap.lt gt7, xt7.2, xt7.ltT, xt7.leT, xtA.2, xtA.ltT, xtA.leT])) ?_)
              rintro x σ8 ⟨rfl, rfl⟩
              repeat (first | (with_reducible first | refine AW.seq ?_ | refine AW.block ?_ | refine AW.skip ?_ | refine AW.ret ?_ | refine AW.exit ?_ | refine AW.reg hT ?_) | ((with_reducible refine AW.cond_true ?_ ?_); · rfl) | ((with_reducible refine AW.cond_false ?_ ?_); · rfl) | simp (maxSteps := 3000000) (maxDischargeDepth := 12) only [seval,push_cast,appendX,Try.results25,dcml,dc1,gtr,Heap.lt gtr,xt3.2,xt3.ltT,xt3.leT,↓dnl,dca,gt4,Heap.lt gt4,xt4.2,xt4.ltT,xt4.leT,dcw,dcn,dcm,dcw4,dcw2,dcw3,gt5,Heap.lt gt5,xt5.2,xt5.ltT,xt5.leT,gt6,Heap.lt gt6,xt6.2,xt6.ltT,xt6.leT,gt7,Heap.lt gt7,xt7.2,xt7.ltT,xt7.leT,xtA.2,xtA.ltT,xtA.leT])
              refine ⟨_, by rw [hdec2], by rw [hdec2]; exact Hold.nil _ _, by simp [tOf], xtA.set (.inl (by have := xt3.1; omega)) _⟩
            · have hkr' : ¬ ((r.length : Int) < (k : Int)) := by omega
              rw [if_neg hkr', Int.toNat_natCast] at hdec2
              rw [tk_yes (l := r) (n := k) (by omega)] at gt7 ⊢
              repeat (first | (with_reducible first | refine AW.seq ?_ | refine AW.block ?_ | refine AW.skip ?_ | refine AW.ret ?_ | refine AW.exit ?_ | refine AW.reg hT ?_) | ((with_reducible refine AW.cond_true ?_ ?_); · rfl) | ((with_reducible refine AW.cond_false ?_ ?_); · rfl) | simp (maxSteps := 3000000) (maxDischargeDepth := 12) only [seval,push_cast,appendX,Try.results25,dcml,dc1,gtr,Heap.lt gtr,xt3.2,xt3.ltT,xt3.leT,↓dnl,dca,gt4,Heap.lt gt4,xt4.2,xt4.ltT,xt4.leT,dcw,dcn,dcm,dcw4,dcw2,dcw3,gt5,Heap.lt gt5,xt5.2,xt5.ltT,xt5.leT,gt6,Heap.lt gt6,xt6.2,xt6.ltT,xt6.leT,gt7,Heap.lt gt7,xt7.2,xt7.ltT,xt7.leT,xtA.2,xtA.ltT,xtA.leT])
              refine AOpsL.call (first := []) (cap := []) hT rfl rfl rfl fn39 rfl (ACalls.mono (err_ok (l := r.drop k) (e := 0) _ (by simp (maxSteps := 3000000) (maxDischargeDepth := 12) only [push_cast, appendX, Nat.reduceAdd, Nat.reduceEqDiff, Nat.reduceLT, Nat.reduceLeDiff, reduceIte, reduceCtorEq, dcml, dc1, gtr, Heap.lt gtr, xt3.2, xt3.ltT, xt3.leT, ↓dnl, dca, gt4, Heap.lt gt4, xt4.2, xt4.ltT, xt4.leT, dcw, dcn, dcm, dcw4, dcw2, dcw3, gt5, Heap.lt gt5, xt5.2, xt5.ltT, xt5.leT, gt6, Heap.lt gt6, xt6.2, xt6.ltT, xt6.leT, gt7, Heap.lt gt7, xt7.2, xt7.ltT, xt7.leT, xtA.2, xtA.ltT, xtA.leT])) ?_)
              rintro x σ8 ⟨rfl, rfl⟩
              have hxf : Ext [p] σ' σ7 := by
                refine (((xt4.push _).then xt5 (by simp)).set (.inl hx34) _ |>.then xt6 (by simp) |>.set (.inl hx34) _ |>.then xt7 (by simp))
              have hh7 := hh.frame ((hxf.set (t := σ4.n) (.inl hx34) ⟨[[.sc (.int .i64 a2), .sc (.int .i64 a3), .imm (bytesD (r.take k))]], 81, true⟩)) (fun q hq hm => hpd (by simp at hm; rwa [hm] at hq))
              obtain ⟨d8, σ8, dnapp, hh8, hnew8, xt8, he8⟩ := hh7.app1x (ty := 60) (x := eO ⟨a2, a3, r.take k⟩) hnew (xtA.set (t := σ4.n) (.inl (by have := xt3.1; omega)) ⟨[[.sc (.int .i64 a2), .sc (.int .i64 a3), .imm (bytesD (r.take k))]], 81, true⟩) rfl rfl (by decide) rfl (by simp; omega)
              simp only [eO_eq, Heap.n_set] at dnapp
              repeat (first | (with_reducible first | refine AW.seq ?_ | refine AW.block ?_ | refine AW.skip ?_ | refine AW.ret ?_ | refine AW.exit ?_ | refine AW.reg hT ?_) | ((with_reducible refine AW.cond_true ?_ ?_); · rfl) | ((with_reducible refine AW.cond_false ?_ ?_); · rfl) | simp (maxSteps := 3000000) (maxDischargeDepth := 12) only [seval,push_cast,appendX,Try.results25,dcml,dc1,gtr,Heap.lt gtr,xt3.2,xt3.ltT,xt3.leT,↓dnl,dca,gt4,Heap.lt gt4,xt4.2,xt4.ltT,xt4.leT,dcw,dcn,dcm,dcw4,dcw2,dcw3,gt5,Heap.lt gt5,xt5.2,xt5.ltT,xt5.leT,gt6,Heap.lt gt6,xt6.2,xt6.ltT,xt6.leT,gt7,Heap.lt gt7,xt7.2,xt7.ltT,xt7.leT,xtA.2,xtA.ltT,xtA.leT,↓dnapp,xt8.2,xt8.ltT,xt8.leT])
              simp only [List.length_cons] at hrf
              obtain ⟨f', rfl⟩ : ∃ f', f = f' + 1 := ⟨f - 1, by omega⟩
              refine ⟨(r.drop k).length, by simp; omega, f', r.drop k, acc ++ [⟨a2, a3, r.take k⟩], d8, rfl, hdec2, by simp; omega, hor'.drop k, by simp; omega, by simp at hr4 ⊢; omega, ?_, by simpa using hh8, hnew8, xt8, by (simp only [push_cast, TellsL, tells_any, tells_refl])⟩
              refine he8.get ?_ hpd
              simp (maxSteps := 3000000) (maxDischargeDepth := 12) only [push_cast, appendX, Nat.reduceAdd, Nat.reduceEqDiff, Nat.reduceLT, Nat.reduceLeDiff, reduceIte, reduceCtorEq, dcml, dc1, gtr, Heap.lt gtr, xt3.2, xt3.ltT, xt3.leT, ↓dnl, dca, gt4, Heap.lt gt4, xt4.2, xt4.ltT, xt4.leT, dcw, dcn, dcm, dcw4, dcw2, dcw3, gt5, Heap.lt gt5, xt5.2, xt5.ltT, xt5.leT, gt6, Heap.lt gt6, xt6.2, xt6.ltT, xt6.leT, gt7, Heap.lt gt7, xt7.2, xt7.ltT, xt7.leT, xtA.2, xtA.ltT, xtA.leT, ↓dnapp, xt8.2, xt8.ltT, xt8.leT]
theorem digits2 (u : Int) : digits 2 u = [digit u 1, digit u 0] := rfl
theorem dec_enc : ∀ (l : List Ob) (f : Nat) (acc : List Ob), (∀ x ∈ l, mayO x) → acc.length + l.length ≤ 32 → (obsB l).length ≤ f → decGo (f + 1) (obsB l) acc = (acc ++ l, 0)
  | [], f, acc, _, _, _ => by simp [obsB, decGo]
  | x :: l, f, acc, hm, hl, hf => by
    have hx := hm x List.mem_cons_self
    have e : obsB (x :: l) = digit ((x.f2.length : Int) + 4) 1 :: digit ((x.f2.length : Int) + 4) 0 :: x.f0 :: x.f1 :: (x.f2 ++ obsB l) := by
      simp [obsB, obB, digits2]
    have hN : num [digit ((x.f2.length : Int) + 4) 1, digit ((x.f2.length : Int) + 4) 0] = (x.f2.length : Int) + 4 := by
      rw [← digits2]; exact num_digits (by omega) (by have := hx.2.2.1; omega)
    have h4 : ((x.f2.length : Int) + 4) % 4 = 0 := by have := hx.2.2.2; omega
    simp only [List.length_cons] at hl
    rw [e] at hf ⊢
    simp only [List.length_cons, List.length_append] at hf
    have hbad : ¬ ((x.f2.length : Int) + 4 < 4 ∨ ((x.f2.length : Int) + 4) % 4 ≠ 0) := by omega
    have hsh : ¬ (((x.f2 ++ obsB l).length : Int) < (x.f2.length : Int) + 4 - 4) := by simp; omega
    have ht : ((x.f2.length : Int) + 4 - 4).toNat = x.f2.length := by omega
    rw [decGo, if_neg (by omega), hN, if_neg hbad, if_neg hsh, ht, List.drop_left, List.take_left]
    obtain ⟨g, rfl⟩ : ∃ g, f = g + 1 := ⟨f - 1, by omega⟩
    rw [dec_enc l g _ (fun y hy => hm y (List.mem_cons_of_mem _ hy)) (by simp; omega) (by omega)]
    simp
theorem enc_dec : ∀ (f : Nat) (b : List Int) (acc m : List Ob), Octs b → b.length ≤ 4096 → acc.length ≤ 32 → decGo (f + 1) b acc = (m, 0) → b.length ≤ f → ∃ m', m = acc ++ m' ∧ obsB m' = b ∧ (∀ x ∈ m', mayO x) ∧ m.length ≤ 32
  | f, [], acc, m, _, _, ha, h, _ => by simp [decGo] at h; subst h; exact ⟨[], by simp, rfl, by simp, ha⟩
  | f, [a], acc, m, _, _, _, h, _ => by simp only [decGo] at h; split at h <;> simp at h
  | f, [a, b], acc, m, _, _, _, h, _ => by simp only [decGo] at h; split at h <;> simp at h
  | f, [a, b, c], acc, m, _, _, _, h, _ => by simp only [decGo] at h; split at h <;> simp at h
  | 0, a :: b :: c :: d :: r, acc, m, _, _, _, _, hf => by simp at hf
  | f + 1, a0 :: a1 :: a2 :: a3 :: r, acc, m, ho, hb, ha, h, hf => by
    simp only [decGo] at h
    split at h
    · simp at h
    · rename_i h32
      split at h
      · simp at h
      · rename_i hbad
        split at h
        · simp at h
        · rename_i hsh
          have ho0 := ho a0 (by simp)
          have ho1 := ho a1 (by simp)
          have ho2 := ho a2 (by simp)
          have ho3 := ho a3 (by simp)
          have hor : Octs r := fun x hx => ho x (by simp [hx])
          obtain ⟨j, hj⟩ : ∃ j : Nat, num [a0, a1] = (j : Int) + 4 := ⟨(num [a0, a1] - 4).toNat, by omega⟩
          have ht : ((j : Int) + 4 - 4).toNat = j := by omega
          rw [hj, ht] at h
          simp only [List.length_cons] at hb hf
          have hjr : j ≤ r.length := by omega
          obtain ⟨m', h1, h2, h3, h4⟩ := enc_dec f (r.drop j) _ m (hor.drop j) (by simp; omega) (by simp; omega) h (by simp; omega)
          have htl : (r.take j).length = j := by simp; omega
          refine ⟨⟨a2, a3, r.take j⟩ :: m', by simp [h1], ?_, ?_, h4⟩
          · have hd : digits 2 ((j : Int) + 4) = [a0, a1] := by
              rw [← hj]; exact digits_num (l := [a0, a1]) (by intro x hx; simp at hx; rcases hx with h | h <;> subst h <;> assumption)
            simp only [obsB, List.flatMap_cons] at h2 ⊢
            rw [h2]
            simp only [obB, htl, hd]
            simp
          · intro x hx
            rcases List.mem_cons.1 hx with rfl | hx
            · refine ⟨⟨ho2.1, by show a2 ≤ 255; omega⟩, ⟨ho3.1, by show a3 ≤ 255; omega⟩, by simp; omega, ?_⟩
              simp only [htl]; omega
            · exact h3 x hx
theorem encO_ok {l : List Ob} (h : (encO l).2 = 0) : encO l = (obsB l, 0) ∧ (∀ x ∈ l, mayO x) ∧ l.length ≤ 32 ∧ (obsB l).length ≤ 4096 := by
  revert h; unfold encO
  split
  · simp
  · split
    · split
      · simp
      · intro _; rename_i h1 h2 h3; exact ⟨rfl, by assumption, by omega, by omega⟩
    · simp
theorem encO_of {l : List Ob} (h1 : ∀ x ∈ l, mayO x) (h2 : l.length ≤ 32) (h3 : (obsB l).length ≤ 4096) : encO l = (obsB l, 0) := by
  rw [encO, if_neg (by omega), if_pos h1, if_neg (by omega)]
theorem back_enc {l : List Ob} (h : (encO l).2 = 0) : decO (encO l).1 = (l, 0) := by
  obtain ⟨h1, h2, h3, h4⟩ := encO_ok h
  rw [h1, decO, if_neg (by simp; omega), dec_enc l _ [] h2 (by simpa using h3) (Nat.le_refl _)]; rfl
theorem back_dec {b : List Int} (ho : Octs b) (h : (decO b).2 = 0) : encO (decO b).1 = (b, 0) := by
  have h0 : decO b = ((decO b).1, 0) := by rw [← h]
  generalize (decO b).1 = m at h0 ⊢
  unfold decO at h0
  split at h0
  · simp at h0
  · obtain ⟨m', e1, e2, e3, e4⟩ := enc_dec b.length b [] m ho (by omega) (by simp) h0 (Nat.le_refl _)
    have e5 : m = m' := by rw [e1, List.nil_append]
    rw [e5] at e4 ⊢
    rw [encO_of e3 e4 (by rw [e2]; omega), e2]
theorem octs_obsB {l : List Ob} (h : ∀ x ∈ l, mayO x) (h2 : ∀ x ∈ l, Octs x.f2) : Octs (obsB l) := by
  intro d hd
  obtain ⟨x, hx, hd⟩ := List.mem_flatMap.1 hd
  have hm := h x hx
  rw [obB] at hd
  rcases List.mem_append.1 hd with hd | hd
  · rcases List.mem_append.1 hd with hd | hd
    · exact digits_octs _ _ d hd
    · simp at hd; rcases hd with rfl | rfl
      · exact ⟨hm.1.1, by have := hm.1.2; omega⟩
      · exact ⟨hm.2.1.1, by have := hm.2.1.2; omega⟩
  · exact h2 x hx d hd
theorem octs_wf {b : List Int} (h : ∀ y ∈ b, (Lit.int .u8 y).wf = true) : Octs b := fun d hd => by
  have := h d hd
  have h2 := wf_u8 this
  omega
def okB (l : List Int) : Prop := ∀ x ∈ l, 0 ≤ x ∧ x ≤ 255
theorem okB_octs {l : List Int} (h : Octs l) : okB l := fun x hx => by have := h x hx; omega
theorem octs_okB {l : List Int} (h : okB l) : Octs l := fun x hx => by have := h x hx; omega
def addF (a b : Int) : Int := if a + b > 65535 then a + b - 65535 else a + b
def wordsF : List Int → Int → Int
  | [], n => n
  | [x], n => addF n (x * 256)
  | x :: y :: r, n => wordsF r (addF n (x * 256 + y))
def ofF (l : List Int) : Int := 65535 - wordsF l 0
theorem addF_range {a b : Int} (h0 : 0 ≤ a) (h1 : a ≤ 65535) (h2 : 0 ≤ b) (h3 : b ≤ 65535) : 0 ≤ addF a b ∧ addF a b ≤ 65535 := by unfold addF; split <;> omega
theorem wordsF_snoc0 : ∀ (l : List Int) (n : Int), l.length % 2 = 1 → wordsF (l ++ [0]) n = wordsF l n
  | [], n, h => by simp at h
  | [x], n, _ => by simp [wordsF]
  | x :: y :: r, n, h => by
    have := wordsF_snoc0 r (addF n (x * 256 + y)) (by simp at h; omega)
    simpa [wordsF] using this
def vsum : List Int → Int
  | [] => 0
  | [x] => x * 256
  | x :: y :: r => x * 256 + y + vsum r
def norm (x : Int) : Int := if x = 0 then 0 else (x - 1) % 65535 + 1
theorem vsum_nonneg : ∀ (l : List Int), okB l → 0 ≤ vsum l
  | [], _ => by simp [vsum]
  | [x], h => by have := h x (by simp); simp only [vsum]; omega
  | x :: y :: r, h => by
    have hx := h x (by simp)
    have hy := h y (by simp)
    have := vsum_nonneg r (fun z hz => h z (by simp [hz]))
    simp only [vsum]
    omega
theorem norm_range {x : Int} (h : 0 ≤ x) : 0 ≤ norm x ∧ norm x ≤ 65535 := by unfold norm; split <;> omega
theorem addF_norm {x b : Int} (h : 0 ≤ x) (h2 : 0 ≤ b) (h3 : b ≤ 65535) : addF (norm x) b = norm (x + b) := by
  unfold addF norm
  split <;> split <;> split <;> omega
theorem wordsF_norm : ∀ (l : List Int) (x : Int), okB l → 0 ≤ x → wordsF l (norm x) = norm (x + vsum l)
  | [], x, _, _ => by simp [wordsF, vsum]
  | [a], x, h, h0 => by
    have ha := h a (by simp)
    simp only [wordsF, vsum]
    exact addF_norm h0 (by omega) (by omega)
  | a :: b :: r, x, h, h0 => by
    have ha := h a (by simp)
    have hb := h b (by simp)
    simp only [wordsF, vsum]
    rw [addF_norm h0 (by omega) (by omega), wordsF_norm r _ (fun z hz => h z (by simp [hz])) (by omega)]
    congr 1
    omega
theorem ofF_vsum (l : List Int) (h : okB l) : ofF l = 65535 - norm (vsum l) := by
  have := wordsF_norm l 0 h (by omega)
  have e : norm 0 = 0 := rfl
  rw [e] at this
  unfold ofF
  rw [this]
  congr 2
  omega
theorem ofF_range (l : List Int) (h : okB l) : 0 ≤ ofF l ∧ ofF l ≤ 65535 := by
  rw [ofF_vsum l h]
  have := norm_range (vsum_nonneg l h)
  omega
def wt (i : Nat) : Int := if i % 2 = 0 then 256 else 1
theorem vsum_set : ∀ (l : List Int) (i : Nat) (v : Int) (h : i < l.length), vsum (l.set i v) = vsum l + (v - l[i]) * wt i
  | [], i, v, h => by simp at h
  | [x], i, v, h => by
    obtain rfl : i = 0 := by simp at h; omega
    have e : wt 0 = 256 := rfl
    simp only [List.set_cons_zero, vsum, e, List.getElem_cons_zero]
    omega
  | x :: y :: r, 0, v, h => by
    have e : wt 0 = 256 := rfl
    simp only [List.set_cons_zero, vsum, e, List.getElem_cons_zero]
    omega
  | x :: y :: r, 1, v, h => by simp [vsum, wt]; omega
  | x :: y :: r, i + 2, v, h => by
    have hi : i < r.length := by simp only [List.length_cons] at h; omega
    have := vsum_set r i v hi
    have e : wt (i + 2) = wt i := by unfold wt; rw [show (i + 2) % 2 = i % 2 by omega]
    simp only [List.set_cons_succ, vsum, this, e, List.getElem_cons_succ]
    omega
theorem okB_set {l : List Int} (h : okB l) (i : Nat) {v : Int} (h0 : 0 ≤ v) (h1 : v ≤ 255) : okB (l.set i v) := fun x hx => by
  rcases List.mem_or_eq_of_mem_set hx with hx | rfl
  · exact h x hx
  · exact ⟨h0, h1⟩
def zeroed (l : List Int) (at_ : Nat) : List Int := (l.set at_ 0).set (at_ + 1) 0
def sealed (l : List Int) (at_ : Nat) : List Int := ((zeroed l at_).set at_ (ofF (zeroed l at_) / 256)).set (at_ + 1) (ofF (zeroed l at_) % 256)
theorem zeroed_length (l : List Int) (i : Nat) : (zeroed l i).length = l.length := by simp [zeroed]
theorem zeroed_ok {l : List Int} (h : okB l) (i : Nat) : okB (zeroed l i) := okB_set (okB_set h i (by omega) (by omega)) _ (by omega) (by omega)
theorem sealed_ok {l : List Int} (h : okB l) (i : Nat) : okB (sealed l i) := by
  have hr := ofF_range _ (zeroed_ok h i)
  exact okB_set (okB_set (zeroed_ok h i) i (by omega) (by omega)) _ (by omega) (by omega)
theorem vsum_sealed {l : List Int} (i : Nat) (he : i % 2 = 0) (hi : i + 1 < l.length) : vsum (sealed l i) = vsum (zeroed l i) + ofF (zeroed l i) := by
  have hl := zeroed_length l i
  have h1 : i < (zeroed l i).length := by omega
  have h2 : i + 1 < ((zeroed l i).set i (ofF (zeroed l i) / 256)).length := by simp; omega
  unfold sealed
  rw [vsum_set _ _ _ h2, vsum_set _ _ _ h1]
  have z1 : (zeroed l i)[i] = 0 := by
    simp [zeroed]
  have z2 : ((zeroed l i).set i (ofF (zeroed l i) / 256))[i + 1] = 0 := by
    rw [List.getElem_set_ne (by omega)]
    simp [zeroed]
  have w1 : wt i = 256 := by unfold wt; rw [if_pos he]
  have w2 : wt (i + 1) = 1 := by unfold wt; rw [if_neg (by omega)]
  rw [z1, z2, w1, w2]
  omega
theorem sealed_right {l : List Int} (h : okB l) (i : Nat) (he : i % 2 = 0) (hi : i + 1 < l.length) : ofF (sealed l i) = 0 ∧ vsum (sealed l i) % 65535 = 0 ∧ 0 < vsum (sealed l i) := by
  have hz := vsum_nonneg _ (zeroed_ok h i)
  rw [ofF_vsum _ (sealed_ok h i), vsum_sealed i he hi, ofF_vsum _ (zeroed_ok h i)]
  generalize vsum (zeroed l i) = v at *
  unfold norm
  split <;> split <;> omega
theorem num2s (a b : Int) : num [a, b] = a * 256 + b := by simp [num]
theorem sadd_ok (σ : Heap) {a b : Int} (h0 : 0 ≤ a ∧ a ≤ 65535) (h1 : 0 ≤ b ∧ b ≤ 65535) : ACalls Try.prog 61 [.sc (.int .u16 a), .sc (.int .u16 b)] σ (fun y σ' => y = .sc (.int .u16 (addF a b)) ∧ σ' = σ) := by
  have dcw1 : IntKind.u32.wrap a = a := by rw [IntKind.wrap_u32]; omega
  have dcw2 : IntKind.u32.wrap b = b := by rw [IntKind.wrap_u32]; omega
  have dcw3 : IntKind.u32.wrap (a + b) = a + b := by rw [IntKind.wrap_u32]; omega
  refine ACalls.code hT Try.func61 rfl ?_
  simp only [Try.ntmps61, List.length_cons, List.length_nil, Nat.reduceSub, Nat.reduceAdd, List.replicate, List.cons_append, List.nil_append]
  repeat (first | (with_reducible refine AW.seq ?_) | (with_reducible refine AW.block ?_) | (with_reducible refine AW.skip ?_) | (with_reducible refine AW.ret ?_) | (with_reducible refine AW.exit ?_) | (with_reducible refine AW.reg hT ?_) | ((with_reducible refine AW.cond_true ?_ ?_); · rfl) | ((with_reducible refine AW.cond_false ?_ ?_); · rfl) | simp (maxSteps := 3000000) (maxDischargeDepth := 12) only [push_cast,appendX,reduceIte,reduceCtorEq,Nat.reduceSub,Nat.reduceAdd,Nat.reduceMul,Nat.reduceLT,Nat.reduceLeDiff,Nat.reduceEqDiff,Nat.reduceBEq,Int.reduceToNat,Int.reduceLT,Int.reduceLE,Int.reduceEq,Int.reduceNeg,Try.results61,dcw1,dcw2,dcw3])
  have e : (a + b).fdiv (2 ^ min 16 32) = (a + b) / 65536 := by rw [Int.fdiv_eq_ediv_of_nonneg _ (by decide)]; rfl
  have e2 : IntKind.u16.wrap (IntKind.u32.wrap ((a + b) + (a + b) / 65536)) = addF a b := by
    rw [IntKind.wrap_u32, IntKind.wrap_u16, addF]
    split <;> omega
  rw [e, e2]
def ofI (W : Int) (p : Nat) (σ0 : Heap) (m : Nat) (ts : List DV) (σ : Heap) : Prop := ∃ r n, m = r.length ∧ r.length % 2 = 0 ∧ Octs r ∧ wordsF r n = W ∧ 0 ≤ n ∧ n ≤ 65535 ∧ σ.get p = some (ROb r 0) ∧ Ext [] σ0 σ ∧ TellsL ts (.any :: .any :: .sc (.int .u16 0) :: .sc (.int .u16 n) :: .ptr p 0 0 1 :: .any :: .any :: .any :: .any :: .any :: .any :: .any :: .any :: .any :: .any :: .any :: .any :: .any :: .any :: .any :: .any :: .any :: .any :: .any :: .any :: .any :: .any :: .any :: .any :: [])
theorem sof_ok (σ : Heap) {d : DV} {l : List Int} (ho : Octs l) (hl : l.length ≤ 999999) (hs : Src σ d (bytesD l)) (dnl : lenD T 23 d = some (l.length : Int)) (hd : l.length % 2 = 1 → d = .imm (bytesD l)) : ACalls Try.prog 34 [d] σ (fun y σ' => y = .sc (.int .u16 (ofF l)) ∧ Ext [] σ σ') := by
  have htm : (l.length : Int).tmod 2 = ((l.length % 2 : Nat) : Int) := by rw [Int.tmod_eq_emod_of_nonneg (by omega)]; omega
  refine ACalls.code hT Try.func34 rfl ?_
  simp only [Try.ntmps34, List.length_cons, List.length_nil, Nat.reduceSub, Nat.reduceAdd, List.replicate, List.cons_append, List.nil_append]
  repeat ((fail_if_success (with_reducible refine AW.at1 (id := 1) ?_)); (fail_if_success (with_reducible refine AW.at2 (id := 1) ?_)); first | (with_reducible refine AW.seq ?_) | (with_reducible refine AW.block ?_) | (with_reducible refine AW.skip ?_) | (with_reducible refine AW.ret ?_) | (with_reducible refine AW.exit ?_) | (with_reducible refine AW.reg hT ?_) | ((with_reducible refine AW.cond_true ?_ ?_); · rfl) | ((with_reducible refine AW.cond_false ?_ ?_); · rfl) | simp (maxSteps := 3000000) (maxDischargeDepth := 12) only [push_cast,appendX,reduceIte,reduceCtorEq,Nat.reduceSub,Nat.reduceAdd,Nat.reduceMul,Nat.reduceLT,Nat.reduceLeDiff,Nat.reduceEqDiff,Nat.reduceBEq,Int.reduceToNat,Int.reduceLT,Int.reduceLE,Int.reduceEq,Int.reduceNeg,Try.results34,↓dnl])
  refine AW.seqK (fun ts σ1 => ∃ d' l', Src σ1 d' (bytesD l') ∧ l'.length % 2 = 0 ∧ l'.length ≤ 1000000 ∧ Octs l' ∧ wordsF l' 0 = wordsF l 0 ∧ Ext [] σ σ1 ∧ TellsL ts (d' :: .any :: .sc (.int .u16 0) :: .any :: .any :: .any :: .any :: .any :: .any :: .any :: .any :: .any :: .any :: .any :: .any :: .any :: .any :: .any :: .any :: .any :: .any :: .any :: .any :: .any :: .any :: .any :: .any :: .any :: .any :: [])) ?_ ?_
  · by_cases h2 : l.length % 2 = 1
    · have dc2 : ((l.length : Int).tmod 2 == 1) = true := by rw [htm, h2]; rfl
      have hl0 : 0 < l.length := by omega
      obtain rfl := hd h2
      have del : (bytesD l).length = l.length := bytesD_length _
      have hall : ((bytesD l).all fun el => el.length == 1) = true := bytes_all l
      refine AW.seq ?_
      refine AW.reg hT ?_
      simp (maxSteps := 3000000) (maxDischargeDepth := 12) only [push_cast,appendX,reduceIte,reduceCtorEq,Nat.reduceSub,Nat.reduceAdd,Nat.reduceMul,Nat.reduceLT,Nat.reduceLeDiff,Nat.reduceEqDiff,Nat.reduceBEq,Int.reduceToNat,Int.reduceLT,Int.reduceLE,Int.reduceEq,Int.reduceNeg,↓dnl,dc2]
      refine AW.cond_true rfl ?_
      refine AW.regL ?_
      refine AOpsL.one hT rfl rfl ?_
      refine AOpsL.one hT rfl rfl ?_
      refine AOpsL.one hT rfl (r := (.sc (.int .i64 l.length), σ)) (by simp (maxSteps := 3000000) (maxDischargeDepth := 12) only [push_cast,appendX,reduceIte,reduceCtorEq,Nat.reduceSub,Nat.reduceAdd,Nat.reduceMul,Nat.reduceLT,Nat.reduceLeDiff,Nat.reduceEqDiff,Nat.reduceBEq,Int.reduceToNat,Int.reduceLT,Int.reduceLE,Int.reduceEq,Int.reduceNeg,↓dnl,dc2]) ?_
      refine AOpsL.one hT rfl rfl ?_
      refine AOpsL.one hT rfl (r := (.sc (.int .i64 l.length), σ)) (by simp (maxSteps := 3000000) (maxDischargeDepth := 12) only [push_cast,appendX,reduceIte,reduceCtorEq,Nat.reduceSub,Nat.reduceAdd,Nat.reduceMul,Nat.reduceLT,Nat.reduceLeDiff,Nat.reduceEqDiff,Nat.reduceBEq,Int.reduceToNat,Int.reduceLT,Int.reduceLE,Int.reduceEq,Int.reduceNeg,↓dnl,dc2]) ?_
      refine AOpsL.op rfl (AOp.cutFull hT rfl rfl rfl rfl (by rw [del]) rfl rfl hall ?_)
      refine AOpsL.one hT rfl rfl ?_
      refine AOpsL.rule hT rfl (AOp.appendFull hT (l := bytesD l) (l2 := [[.sc (.int .u8 0)]]) rfl rfl rfl (by simp (maxSteps := 3000000) (maxDischargeDepth := 12) only [push_cast,appendX,reduceIte,reduceCtorEq,Nat.reduceSub,Nat.reduceAdd,Nat.reduceMul,Nat.reduceLT,Nat.reduceLeDiff,Nat.reduceEqDiff,Nat.reduceBEq,Int.reduceToNat,Int.reduceLT,Int.reduceLE,Int.reduceEq,Int.reduceNeg,sliceD,↓dnl,dc2]) rfl rfl (by decide) hall rfl (by omega) (by decide) (by simp; omega) ?_)
      simp (maxSteps := 3000000) (maxDischargeDepth := 12) only [push_cast,appendX,reduceIte,reduceCtorEq,Nat.reduceSub,Nat.reduceAdd,Nat.reduceMul,Nat.reduceLT,Nat.reduceLeDiff,Nat.reduceEqDiff,Nat.reduceBEq,Int.reduceToNat,Int.reduceLT,Int.reduceLE,Int.reduceEq,Int.reduceNeg,↓dnl,dc2]
      have hb : bytesD (l ++ [0]) = bytesD l ++ [[.sc (.int .u8 0)]] := bytesD_append l [0]
      have hH := Hold.row (σ := ((σ.push ⟨[[.sc (.int .u8 0)]], 5, true⟩).push ⟨bytesD l ++ [[.sc (.int .u8 0)]], 5, true⟩)) (t := σ.n + 1) (els := bytesD l ++ [[.sc (.int .u8 0)]]) (e := 5) (by simp (maxSteps := 3000000) (maxDischargeDepth := 12) only [push_cast, appendX, Nat.reduceAdd, Nat.reduceEqDiff, Nat.reduceLT, Nat.reduceLeDiff, reduceIte, reduceCtorEq, ↓dnl, dc2])
      rw [List.length_append, List.length_cons, List.length_nil] at hH
      refine ⟨.sl (σ.n + 1) 0 ((bytesD l).length + 1) ((bytesD l).length + 1), l ++ [0], ?_, by simp; omega, by simp; omega, ?_, wordsF_snoc0 l 0 h2, by repeat (first | exact Ext.refl _ _ | assumption | refine Ext.push ?_ _ | ((refine Ext.set ?_ ?_ _); rotate_left; · (simp (maxSteps := 3000000) (maxDischargeDepth := 12) only [push_cast, appendX, Nat.reduceAdd, Nat.reduceEqDiff, Nat.reduceLT, Nat.reduceLeDiff, reduceIte, reduceCtorEq, ↓dnl, dc2])) | ((refine Ext.then1 (by assumption) ?_ ?_); rotate_left; · (intro p hp _; first | assumption | exact List.mem_cons_of_mem _ hp | (cases hp; done) | (simp at hp; subst hp; simp)))), by (simp only [push_cast, TellsL, tells_any, tells_refl])⟩
      · rw [hb]; exact hH.src
      · intro x hx
        rcases List.mem_append.1 hx with h | h
        · exact ho x h
        · simp at h; omega
    · have dc2 : ((l.length : Int).tmod 2 == 1) = false := by rw [htm]; simp; omega
      repeat (first | (with_reducible refine AW.seq ?_) | (with_reducible refine AW.block ?_) | (with_reducible refine AW.skip ?_) | (with_reducible refine AW.ret ?_) | (with_reducible refine AW.exit ?_) | (with_reducible refine AW.reg hT ?_) | ((with_reducible refine AW.cond_true ?_ ?_); · rfl) | ((with_reducible refine AW.cond_false ?_ ?_); · rfl) | simp (maxSteps := 3000000) (maxDischargeDepth := 12) only [push_cast,appendX,reduceIte,reduceCtorEq,Nat.reduceSub,Nat.reduceAdd,Nat.reduceMul,Nat.reduceLT,Nat.reduceLeDiff,Nat.reduceEqDiff,Nat.reduceBEq,Int.reduceToNat,Int.reduceLT,Int.reduceLE,Int.reduceEq,Int.reduceNeg,Try.results34,↓dnl,dc2])
      exact ⟨_, l, hs, by omega, by omega, ho, rfl, Ext.refl _ _, by (simp only [push_cast, TellsL, tells_any, tells_refl])⟩
  · rintro ts σ1 ⟨d', l', hs', h2, hl', ho', hw, xt1, hts⟩
    refine AW.told hts ?_
    clear hts
    repeat (first | (with_reducible refine AW.seq ?_) | (with_reducible refine AW.block ?_) | (with_reducible refine AW.skip ?_) | (with_reducible refine AW.ret ?_) | (with_reducible refine AW.exit ?_) | (with_reducible refine AW.reg hT ?_) | ((with_reducible refine AW.cond_true ?_ ?_); · rfl) | ((with_reducible refine AW.cond_false ?_ ?_); · rfl) | simp (maxSteps := 3000000) (maxDischargeDepth := 12) only [push_cast,appendX,reduceIte,reduceCtorEq,Nat.reduceSub,Nat.reduceAdd,Nat.reduceMul,Nat.reduceLT,Nat.reduceLeDiff,Nat.reduceEqDiff,Nat.reduceBEq,Int.reduceToNat,Int.reduceLT,Int.reduceLE,Int.reduceEq,Int.reduceNeg,Try.results34,↓dnl,xt1.2,xt1.ltT,xt1.leT])
    refine AOpsL.call (first := []) (cap := []) hT rfl rfl rfl fn35 rfl (ACalls.mono (rdnew_ok _ d' l' hs' hl') ?_)
    rintro x σ2 ⟨p, rfl, hpn, gtp, xt2⟩
    have xt02 := xt1.trans xt2
    have hpn' : σ.n ≤ p := Nat.le_trans xt1.1 hpn
    repeat (first | (with_reducible refine AW.seq ?_) | (with_reducible refine AW.block ?_) | (with_reducible refine AW.skip ?_) | (with_reducible refine AW.ret ?_) | (with_reducible refine AW.exit ?_) | (with_reducible refine AW.reg hT ?_) | ((with_reducible refine AW.cond_true ?_ ?_); · rfl) | ((with_reducible refine AW.cond_false ?_ ?_); · rfl) | simp (maxSteps := 3000000) (maxDischargeDepth := 12) only [push_cast,appendX,reduceIte,reduceCtorEq,Nat.reduceSub,Nat.reduceAdd,Nat.reduceMul,Nat.reduceLT,Nat.reduceLeDiff,Nat.reduceEqDiff,Nat.reduceBEq,Int.reduceToNat,Int.reduceLT,Int.reduceLE,Int.reduceEq,Int.reduceNeg,Try.results34,↓dnl,xt1.2,xt1.ltT,xt1.leT,gtp,Heap.lt gtp,xt2.2,xt2.ltT,xt2.leT,xt02.2,xt02.ltT,xt02.leT])
    refine AW.loop (ofI (wordsF l 0) p σ) (m := l'.length) ⟨l', 0, rfl, h2, ho', hw, by omega, by omega, gtp, xt02, by (simp only [push_cast, TellsL, tells_any, tells_refl])⟩ ?_
    clear gtp xt02 xt1 xt2
    rintro m ts σ3 ⟨r, n, rfl, hr2, hor, hwr, hn0, hn1, gtr, xt3, hts⟩
    refine AW.told hts ?_
    clear hts
    repeat (first | (with_reducible refine AW.seq ?_) | (with_reducible refine AW.block ?_) | (with_reducible refine AW.skip ?_) | (with_reducible refine AW.ret ?_) | (with_reducible refine AW.exit ?_) | (with_reducible refine AW.reg hT ?_) | ((with_reducible refine AW.cond_true ?_ ?_); · rfl) | ((with_reducible refine AW.cond_false ?_ ?_); · rfl) | simp (maxSteps := 3000000) (maxDischargeDepth := 12) only [push_cast,appendX,reduceIte,reduceCtorEq,Nat.reduceSub,Nat.reduceAdd,Nat.reduceMul,Nat.reduceLT,Nat.reduceLeDiff,Nat.reduceEqDiff,Nat.reduceBEq,Int.reduceToNat,Int.reduceLT,Int.reduceLE,Int.reduceEq,Int.reduceNeg,Try.results34,↓dnl,gtr,Heap.lt gtr,xt3.2,xt3.ltT,xt3.leT])
    refine AOpsL.call (first := []) (cap := []) hT rfl rfl rfl fn36 rfl (ACalls.mono (left_ok _ gtr) ?_)
    rintro x σ' ⟨rfl, rfl⟩
    match r, hr2, hor, hwr, gtr with
    | [], _, _, hwr, gtr =>
      have dcr : decide (0 < (([] : List Int).length : Int)) = false := rfl
      repeat (first | (with_reducible refine AW.seq ?_) | (with_reducible refine AW.block ?_) | (with_reducible refine AW.skip ?_) | (with_reducible refine AW.ret ?_) | (with_reducible refine AW.exit ?_) | (with_reducible refine AW.reg hT ?_) | ((with_reducible refine AW.cond_true ?_ ?_); · rfl) | ((with_reducible refine AW.cond_false ?_ ?_); · rfl) | simp (maxSteps := 3000000) (maxDischargeDepth := 12) only [push_cast,appendX,reduceIte,reduceCtorEq,Nat.reduceSub,Nat.reduceAdd,Nat.reduceMul,Nat.reduceLT,Nat.reduceLeDiff,Nat.reduceEqDiff,Nat.reduceBEq,Int.reduceToNat,Int.reduceLT,Int.reduceLE,Int.reduceEq,Int.reduceNeg,Try.results34,↓dnl,gtr,Heap.lt gtr,xt3.2,xt3.ltT,xt3.leT,dcr])
      refine AOpsL.rule hT rfl (AOp.compl16 rfl rfl hn0 hn1 ?_)
      repeat (first | (with_reducible refine AW.seq ?_) | (with_reducible refine AW.block ?_) | (with_reducible refine AW.skip ?_) | (with_reducible refine AW.ret ?_) | (with_reducible refine AW.exit ?_) | (with_reducible refine AW.reg hT ?_) | ((with_reducible refine AW.cond_true ?_ ?_); · rfl) | ((with_reducible refine AW.cond_false ?_ ?_); · rfl) | simp (maxSteps := 3000000) (maxDischargeDepth := 12) only [push_cast,appendX,reduceIte,reduceCtorEq,Nat.reduceSub,Nat.reduceAdd,Nat.reduceMul,Nat.reduceLT,Nat.reduceLeDiff,Nat.reduceEqDiff,Nat.reduceBEq,Int.reduceToNat,Int.reduceLT,Int.reduceLE,Int.reduceEq,Int.reduceNeg,Try.results34,↓dnl,gtr,Heap.lt gtr,xt3.2,xt3.ltT,xt3.leT,dcr])
      have hwr : n = wordsF l 0 := hwr
      exact ⟨by rw [ofF, hwr], xt3⟩
    | [a], hr2, _, _, _ => simp at hr2
    | a :: b :: r, hr2, hor, hwr, gtr =>
      have gtr := gtr
      have dcr : decide (0 < (r.length : Int) + 1 + 1) = true := by simp; omega
      have ha := hor a (by simp)
      have hb := hor b (by simp)
      have hor' : Octs r := fun x hx => hor x (by simp [hx])
      repeat (first | (with_reducible refine AW.seq ?_) | (with_reducible refine AW.block ?_) | (with_reducible refine AW.skip ?_) | (with_reducible refine AW.ret ?_) | (with_reducible refine AW.exit ?_) | (with_reducible refine AW.reg hT ?_) | ((with_reducible refine AW.cond_true ?_ ?_); · rfl) | ((with_reducible refine AW.cond_false ?_ ?_); · rfl) | simp (maxSteps := 3000000) (maxDischargeDepth := 12) only [push_cast,appendX,reduceIte,reduceCtorEq,Nat.reduceSub,Nat.reduceAdd,Nat.reduceMul,Nat.reduceLT,Nat.reduceLeDiff,Nat.reduceEqDiff,Nat.reduceBEq,Int.reduceToNat,Int.reduceLT,Int.reduceLE,Int.reduceEq,Int.reduceNeg,Try.results34,↓dnl,gtr,Heap.lt gtr,xt3.2,xt3.ltT,xt3.leT,dcr])
      have htk : tk (a :: b :: r) 0 2 (decide ((1 : Int) ≤ 2 ∧ (2 : Int) ≤ 8)) = (r, 0, [a, b]) := by
        simp [tk]
        omega
      have hu := uint_ok _ 2 gtr hor
      rw [htk] at hu
      simp only [num2s] at hu
      refine AOpsL.call (first := []) (cap := []) hT rfl rfl rfl fn37 rfl (ACalls.mono (hu) ?_)
      rintro x σ4 ⟨rfl, gt4, xt4⟩
      have dcw : IntKind.u16.wrap (a * 256 + b) = a * 256 + b := by rw [IntKind.wrap_u16]; omega
      repeat (first | (with_reducible refine AW.seq ?_) | (with_reducible refine AW.block ?_) | (with_reducible refine AW.skip ?_) | (with_reducible refine AW.ret ?_) | (with_reducible refine AW.exit ?_) | (with_reducible refine AW.reg hT ?_) | ((with_reducible refine AW.cond_true ?_ ?_); · rfl) | ((with_reducible refine AW.cond_false ?_ ?_); · rfl) | simp (maxSteps := 3000000) (maxDischargeDepth := 12) only [push_cast,appendX,reduceIte,reduceCtorEq,Nat.reduceSub,Nat.reduceAdd,Nat.reduceMul,Nat.reduceLT,Nat.reduceLeDiff,Nat.reduceEqDiff,Nat.reduceBEq,Int.reduceToNat,Int.reduceLT,Int.reduceLE,Int.reduceEq,Int.reduceNeg,Try.results34,↓dnl,gtr,Heap.lt gtr,xt3.2,xt3.ltT,xt3.leT,dcr,gt4,Heap.lt gt4,xt4.2,xt4.ltT,xt4.leT,dcw])
      refine AOpsL.call (first := []) (cap := []) hT rfl rfl rfl fn61 rfl (ACalls.mono (sadd_ok _ ⟨hn0, hn1⟩ ⟨by omega, by omega⟩) ?_)
      rintro x σ' ⟨rfl, rfl⟩
      repeat (first | (with_reducible refine AW.seq ?_) | (with_reducible refine AW.block ?_) | (with_reducible refine AW.skip ?_) | (with_reducible refine AW.ret ?_) | (with_reducible refine AW.exit ?_) | (with_reducible refine AW.reg hT ?_) | ((with_reducible refine AW.cond_true ?_ ?_); · rfl) | ((with_reducible refine AW.cond_false ?_ ?_); · rfl) | simp (maxSteps := 3000000) (maxDischargeDepth := 12) only [push_cast,appendX,reduceIte,reduceCtorEq,Nat.reduceSub,Nat.reduceAdd,Nat.reduceMul,Nat.reduceLT,Nat.reduceLeDiff,Nat.reduceEqDiff,Nat.reduceBEq,Int.reduceToNat,Int.reduceLT,Int.reduceLE,Int.reduceEq,Int.reduceNeg,Try.results34,↓dnl,gtr,Heap.lt gtr,xt3.2,xt3.ltT,xt3.leT,dcr,gt4,Heap.lt gt4,xt4.2,xt4.ltT,xt4.leT,dcw])
      have hr := addF_range hn0 hn1 (b := a * 256 + b) (by omega) (by omega)
      exact ⟨r.length, by simp, r, _, rfl, by simp at hr2; omega, hor', hwr, hr.1, hr.2, gt4, xt3.then xt4 (fun q hq hlt => by simp at hq; subst hq; omega), by (simp only [push_cast, TellsL, tells_any, tells_refl])⟩
theorem sright_ok (σ : Heap) {l : List Int} (ho : Octs l) (hl : l.length ≤ 999999) : ACalls Try.prog 24 [.imm (bytesD l)] σ (fun y σ' => y = .sc (.bool (ofF l == 0)) ∧ Ext [] σ σ') := by
  refine ACalls.code hT Try.func24 rfl ?_
  simp only [Try.ntmps24, List.length_cons, List.length_nil, Nat.reduceSub, Nat.reduceAdd, List.replicate, List.cons_append, List.nil_append]
  repeat (first | (with_reducible refine AW.seq ?_) | (with_reducible refine AW.block ?_) | (with_reducible refine AW.skip ?_) | (with_reducible refine AW.ret ?_) | (with_reducible refine AW.exit ?_) | (with_reducible refine AW.reg hT ?_) | ((with_reducible refine AW.cond_true ?_ ?_); · rfl) | ((with_reducible refine AW.cond_false ?_ ?_); · rfl) | simp (maxSteps := 3000000) (maxDischargeDepth := 12) only [push_cast,appendX,reduceIte,reduceCtorEq,Nat.reduceSub,Nat.reduceAdd,Nat.reduceMul,Nat.reduceLT,Nat.reduceLeDiff,Nat.reduceEqDiff,Nat.reduceBEq,Int.reduceToNat,Int.reduceLT,Int.reduceLE,Int.reduceEq,Int.reduceNeg,Try.results24])
  refine AOpsL.call (first := []) (cap := []) hT rfl rfl rfl fn34 rfl (ACalls.mono (sof_ok _ ho hl (Src.imm _ _) (by simp (maxSteps := 3000000) (maxDischargeDepth := 12) only [push_cast, appendX, reduceIte, reduceCtorEq, Nat.reduceSub, Nat.reduceAdd, Nat.reduceMul, Nat.reduceLT, Nat.reduceLeDiff, Nat.reduceEqDiff, Nat.reduceBEq, Int.reduceToNat, Int.reduceLT, Int.reduceLE, Int.reduceEq, Int.reduceNeg, bytesD_length]) (fun _ => rfl)) ?_)
  rintro x σ1 ⟨rfl, xt1⟩
  repeat (first | (with_reducible refine AW.seq ?_) | (with_reducible refine AW.block ?_) | (with_reducible refine AW.skip ?_) | (with_reducible refine AW.ret ?_) | (with_reducible refine AW.exit ?_) | (with_reducible refine AW.reg hT ?_) | ((with_reducible refine AW.cond_true ?_ ?_); · rfl) | ((with_reducible refine AW.cond_false ?_ ?_); · rfl) | simp (maxSteps := 3000000) (maxDischargeDepth := 12) only [push_cast,appendX,reduceIte,reduceCtorEq,Nat.reduceSub,Nat.reduceAdd,Nat.reduceMul,Nat.reduceLT,Nat.reduceLeDiff,Nat.reduceEqDiff,Nat.reduceBEq,Int.reduceToNat,Int.reduceLT,Int.reduceLE,Int.reduceEq,Int.reduceNeg,Try.results24,xt1.2,xt1.ltT,xt1.leT])
  exact xt1
def sealB (a b : Int) (r : List Int) : List Int := [a, b, ofF (a :: b :: 0 :: 0 :: r) / 256, ofF (a :: b :: 0 :: 0 :: r) % 256] ++ r
theorem seal_ok (σ : Heap) {d : DV} {a b c e : Int} {r : List Int} (ho : Octs (a :: b :: c :: e :: r)) (hl : r.length ≤ 900000) (h2 : r.length % 2 = 0) (hs : Src σ d (bytesD (a :: b :: c :: e :: r))) (hdl : lenD T 23 d = some (((a :: b :: c :: e :: r).length : Nat) : Int)) : ACalls Try.prog 23 [d, .sc (.int .i64 2)] σ (fun y σ' => Ext [] σ σ' ∧ ∃ d', y = .tup [d', .sc (.int .i64 0)] ∧ Hold σ' d' 5 (bytesD (sealB a b r)) ∧ (∀ q ∈ tOf d', σ.n ≤ q)) := by
  obtain ⟨n, hn⟩ : ∃ n : Int, n = (((a :: b :: c :: e :: r).length : Nat) : Int) := ⟨_, rfl⟩
  rw [← hn] at hdl
  have hn4 : n = r.length + 4 := by rw [hn]; simp; omega
  have dnl : lenD T 23 d = some n := hdl
  have dct0 : Int.tmod 2 2 = 0 := rfl
  have dcw : IntKind.i64.wrap (n - 2) = n - 2 := wrap_i64 (by omega) (by omega)
  have dclt : decide (n - 2 < 2) = false := by simp; omega
  have dcw3 : IntKind.i64.wrap (2 + 1) = 3 := rfl
  have dns : sliceD σ d = some ([.sc (.int .u8 a)] :: [.sc (.int .u8 b)] :: [.sc (.int .u8 c)] :: [.sc (.int .u8 e)] :: bytesD r) := hs.now
  have dcbl : (bytesD r).length = r.length := bytesD_length _
  have dcball := bytes_all r
  have dcsz : ((r.length + 4) * 2 ≤ 140737488355328) = True := by simp; omega
  refine ACalls.code hT Try.func23 rfl ?_
  simp only [Try.ntmps23, List.length_cons, List.length_nil, Nat.reduceSub, Nat.reduceAdd, List.replicate, List.cons_append, List.nil_append]
  have dci2 : (2 < (r.length : Int) + 1 + 1 + 1 + 1) = True := by simp; omega
  have dci3 : (3 < (r.length : Int) + 1 + 1 + 1 + 1) = True := by simp; omega
  repeat ((fail_if_success (with_reducible refine AW.at1 (id := 5) ?_)); (fail_if_success (with_reducible refine AW.at2 (id := 5) ?_)); first | (with_reducible refine AW.seq ?_) | (with_reducible refine AW.block ?_) | (with_reducible refine AW.skip ?_) | (with_reducible refine AW.ret ?_) | (with_reducible refine AW.exit ?_) | (with_reducible refine AW.reg hT ?_) | ((with_reducible refine AW.cond_true ?_ ?_); · rfl) | ((with_reducible refine AW.cond_false ?_ ?_); · rfl) | simp (maxSteps := 3000000) (maxDischargeDepth := 12) only [push_cast,appendX,reduceIte,reduceCtorEq,Nat.reduceSub,Nat.reduceAdd,Nat.reduceMul,Nat.reduceLT,Nat.reduceLeDiff,Nat.reduceEqDiff,Nat.reduceBEq,Int.reduceToNat,Int.reduceLT,Int.reduceLE,Int.reduceEq,Int.reduceNeg,Try.results23,↓dnl,dct0,dcw,dclt,dcw3,↓dns,dcbl,dcball,dcsz,dci2,dci3])
  refine AW.name (fun σ1 hσ1 => ?_)
  have gt1 : σ1.get σ.n = some ⟨[.sc (.int .u8 a)] :: [.sc (.int .u8 b)] :: [.sc (.int .u8 0)] :: [.sc (.int .u8 0)] :: bytesD r, 5, true⟩ := by subst hσ1; simp (maxSteps := 3000000) (maxDischargeDepth := 12) only [push_cast, appendX, Nat.reduceAdd, Nat.reduceEqDiff, Nat.reduceLT, Nat.reduceLeDiff, reduceIte, reduceCtorEq, ↓dnl, dct0, dcw, dclt, dcw3, ↓dns, dcbl, dcball, dcsz, dci2, dci3]
  have xt1 : Ext [] σ σ1 := by subst hσ1; repeat (first | exact Ext.refl _ _ | assumption | refine Ext.push ?_ _ | ((refine Ext.set ?_ ?_ _); rotate_left; · (simp (maxSteps := 3000000) (maxDischargeDepth := 12) only [push_cast, appendX, Nat.reduceAdd, Nat.reduceEqDiff, Nat.reduceLT, Nat.reduceLeDiff, reduceIte, reduceCtorEq, ↓dnl, dct0, dcw, dclt, dcw3, ↓dns, dcbl, dcball, dcsz, dci2, dci3, gt1, Heap.lt gt1])) | ((refine Ext.then1 (by assumption) ?_ ?_); rotate_left; · (intro p hp _; first | assumption | exact List.mem_cons_of_mem _ hp | (cases hp; done) | (simp at hp; subst hp; simp))))
  clear hσ1
  have ho0 : Octs (a :: b :: 0 :: 0 :: r) := fun x hx => by
    simp only [List.mem_cons] at hx
    rcases hx with h | h | h | h | h
    · exact ho x (by simp [h])
    · exact ho x (by simp [h])
    · omega
    · omega
    · exact ho x (by simp [h])
  have hH := Hold.row (t := σ.n) (els := bytesD (a :: b :: 0 :: 0 :: r)) (e := 5) gt1
  rw [bytesD_length] at hH
  repeat (first | (with_reducible refine AW.seq ?_) | (with_reducible refine AW.block ?_) | (with_reducible refine AW.skip ?_) | (with_reducible refine AW.ret ?_) | (with_reducible refine AW.exit ?_) | (with_reducible refine AW.reg hT ?_) | ((with_reducible refine AW.cond_true ?_ ?_); · rfl) | ((with_reducible refine AW.cond_false ?_ ?_); · rfl) | simp (maxSteps := 3000000) (maxDischargeDepth := 12) only [push_cast,appendX,reduceIte,reduceCtorEq,Nat.reduceSub,Nat.reduceAdd,Nat.reduceMul,Nat.reduceLT,Nat.reduceLeDiff,Nat.reduceEqDiff,Nat.reduceBEq,Int.reduceToNat,Int.reduceLT,Int.reduceLE,Int.reduceEq,Int.reduceNeg,Try.results23,↓dnl,dct0,dcw,dclt,dcw3,↓dns,dcbl,dcball,dcsz,dci2,dci3,gt1,Heap.lt gt1,xt1.2,xt1.ltT,xt1.leT])
  refine AOpsL.call (first := []) (cap := []) hT rfl rfl rfl fn34 rfl (ACalls.mono (sof_ok _ ho0 (by simp; omega) hH.src (hold_len hH) (fun h => by simp at h; omega)) ?_)
  rintro x σ2 ⟨rfl, xt2⟩
  have gt2 := xt2.get gt1 (by simp)
  have hr := ofF_range _ (okB_octs ho0)
  have hsb : sealB a b r = [a, b, ofF (a :: b :: 0 :: 0 :: r) / 256, ofF (a :: b :: 0 :: 0 :: r) % 256] ++ r := rfl
  revert hr hsb
  generalize ofF (a :: b :: 0 :: 0 :: r) = u
  intro hr hsb
  have dcu1 : IntKind.u8.wrap (u.fdiv (2 ^ min 8 16)) = u / 256 := by rw [Int.fdiv_eq_ediv_of_nonneg _ (by decide), wrap_u8_mod]; show u / 256 % 256 = _; omega
  have dcu2 : IntKind.u8.wrap u = u % 256 := by rw [wrap_u8_mod]
  repeat (first | (with_reducible refine AW.seq ?_) | (with_reducible refine AW.block ?_) | (with_reducible refine AW.skip ?_) | (with_reducible refine AW.ret ?_) | (with_reducible refine AW.exit ?_) | (with_reducible refine AW.reg hT ?_) | ((with_reducible refine AW.cond_true ?_ ?_); · rfl) | ((with_reducible refine AW.cond_false ?_ ?_); · rfl) | simp (maxSteps := 3000000) (maxDischargeDepth := 12) only [push_cast,appendX,reduceIte,reduceCtorEq,Nat.reduceSub,Nat.reduceAdd,Nat.reduceMul,Nat.reduceLT,Nat.reduceLeDiff,Nat.reduceEqDiff,Nat.reduceBEq,Int.reduceToNat,Int.reduceLT,Int.reduceLE,Int.reduceEq,Int.reduceNeg,Try.results23,↓dnl,dct0,dcw,dclt,dcw3,↓dns,dcbl,dcball,dcsz,dci2,dci3,gt1,Heap.lt gt1,xt1.2,xt1.ltT,xt1.leT,xt2.2,xt2.ltT,xt2.leT,gt2,Heap.lt gt2,dcu1,dcu2])
  have hH2 : Hold ((σ2.set σ.n ⟨[.sc (.int .u8 a)] :: [.sc (.int .u8 b)] :: [.sc (.int .u8 (u / 256))] :: [.sc (.int .u8 0)] :: bytesD r, 5, true⟩).set σ.n ⟨[.sc (.int .u8 a)] :: [.sc (.int .u8 b)] :: [.sc (.int .u8 (u / 256))] :: [.sc (.int .u8 (u % 256))] :: bytesD r, 5, true⟩) (.sl σ.n 0 (bytesD (sealB a b r)).length (bytesD (sealB a b r)).length) 5 (bytesD (sealB a b r)) := by
    rw [hsb]
    refine Hold.row ?_
    simp (maxSteps := 3000000) (maxDischargeDepth := 12) only [push_cast, appendX, Nat.reduceAdd, Nat.reduceEqDiff, Nat.reduceLT, Nat.reduceLeDiff, reduceIte, reduceCtorEq, ↓dnl, dct0, dcw, dclt, dcw3, ↓dns, dcbl, dcball, dcsz, dci2, dci3, gt1, Heap.lt gt1, xt1.2, xt1.ltT, xt1.leT, xt2.2, xt2.ltT, xt2.leT, gt2, Heap.lt gt2, dcu1, dcu2]
    rfl
  have hlen : (bytesD (sealB a b r)).length = r.length + 4 := by rw [hsb, bytesD_length]; simp
  rw [hlen] at hH2
  refine ⟨by repeat (first | exact Ext.refl _ _ | assumption | refine Ext.push ?_ _ | ((refine Ext.set ?_ ?_ _); rotate_left; · (simp (maxSteps := 3000000) (maxDischargeDepth := 12) only [push_cast, appendX, Nat.reduceAdd, Nat.reduceEqDiff, Nat.reduceLT, Nat.reduceLeDiff, reduceIte, reduceCtorEq, ↓dnl, dct0, dcw, dclt, dcw3, ↓dns, dcbl, dcball, dcsz, dci2, dci3, gt1, Heap.lt gt1, xt1.2, xt1.ltT, xt1.leT, xt2.2, xt2.ltT, xt2.leT, gt2, Heap.lt gt2, dcu1, dcu2])) | ((refine Ext.then1 (by assumption) ?_ ?_); rotate_left; · (intro p hp _; first | assumption | exact List.mem_cons_of_mem _ hp | (cases hp; done) | (simp at hp; subst hp; simp)))), _, rfl, hH2, fun q hq => by simp [tOf] at hq; omega⟩
end Go.Proofs.Ytdkhlhfdjggbpaa.Cm
