/- Package object, and the document's: Size, Encode. -/
import Derived.Test.YthfdmcmjlkinaaaObj0
namespace Go.Proofs.Ythfdmcmjlkinaaa.Cm
open Go.RowKit
set_option linter.unusedVariables false
set_option linter.unusedSimpArgs false
set_option maxRecDepth 20000
set_option maxHeartbeats 8000000
/-- An object's bytes. -/
def obB (x : Ob) : List Int := digits 2 ((x.f2.length : Int) + 4) ++ [x.f0, x.f1] ++ x.f2
theorem obB_length (x : Ob) : (obB x).length = x.f2.length + 4 := by simp [obB, digits_length]; omega
def obsB (l : List Ob) : List Int := l.flatMap obB
theorem obsB_take {l : List Ob} {i : Nat} (h : i < l.length) : obsB (l.take (i + 1)) = obsB (l.take i) ++ obB l[i] := by
  unfold obsB; rw [List.take_add_one, List.getElem?_eq_getElem h, Option.toList_some, List.flatMap_append]; simp
def encO (l : List Ob) : List Int × Int := if 32 < l.length then ([], 3) else if ∀ x ∈ l, mayO x then (if 4096 < (obsB l).length then ([], 3) else (obsB l, 0)) else ([], 2)
theorem obsB_bound {l : List Ob} (h : ∀ x ∈ l, mayO x) : (obsB l).length ≤ l.length * 4100 := by
  induction l with
  | nil => simp [obsB]
  | cons x r ih =>
    have h1 := ih (fun y hy => h y (List.mem_cons_of_mem _ hy))
    have h2 := (h x List.mem_cons_self).2.2.1
    simp only [obsB, List.flatMap_cons, List.length_append, List.length_cons] at h1 ⊢
    rw [obB_length]; omega
theorem mays_take {l : List Ob} {i : Nat} (h : i < l.length) (h1 : ∀ x ∈ l.take i, mayO x) (h2 : mayO l[i]) : ∀ x ∈ l.take (i + 1), mayO x := by
  intro x hx
  rw [List.take_add_one, List.getElem?_eq_getElem h, Option.toList_some] at hx
  rcases List.mem_append.1 hx with hx | hx
  · exact h1 x hx
  · simp at hx; subst hx; exact h2
def szI (l : List Ob) (σ0 : Heap) (m : Nat) (ts : List DV) (σ : Heap) : Prop := ∃ i, m = l.length + 1 - i ∧ i ≤ l.length ∧ (∀ x ∈ l.take i, mayO x) ∧ Ext [] σ0 σ ∧ TellsL ts (.any :: .any :: .sc (.int .i64 0) :: .sc (.int .i64 0) :: .sc (.int .i64 (obsB (l.take i)).length) :: .any :: .any :: .any :: .any :: .any :: .imm (l.map eO) :: .sc (.int .i64 l.length) :: .sc (.int .i64 i) :: .any :: .any :: .any :: .any :: .any :: .any :: .any :: .any :: .any :: .any :: .any :: .any :: .any :: .any :: .any :: .any :: [])
theorem size_ok (σ : Heap) (l : List Ob) (hl : l.length ≤ 1000000) : ACalls Try.prog 11 [.imm (l.map eO)] σ (fun x σ' => x = .tup [.sc (.int .i64 (encO l).1.length), .sc (.int .i64 (encO l).2)] ∧ Ext [] σ σ') := by
  have dcml : (l.map eO).length = l.length := by simp
  refine ACalls.code hT Try.func11 rfl ?_
  simp only [Try.ntmps11, List.length_cons, List.length_nil, Nat.reduceSub, Nat.reduceAdd, List.replicate, List.cons_append, List.nil_append]
  by_cases h32 : 32 < l.length
  · have dc1 : decide (32 < (l.length : Int)) = true := by simp; omega
    repeat (first | (with_reducible refine AW.seq ?_) | (with_reducible refine AW.block ?_) | (with_reducible refine AW.skip ?_) | (with_reducible refine AW.ret ?_) | (with_reducible refine AW.exit ?_) | (with_reducible refine AW.reg hT ?_) | ((with_reducible refine AW.cond_true ?_ ?_); · rfl) | ((with_reducible refine AW.cond_false ?_ ?_); · rfl) | simp (maxDischargeDepth := 12) only [push_cast, appendX, reduceIte, reduceCtorEq, Nat.reduceSub, Nat.reduceAdd, Nat.reduceMul, Nat.reduceLT, Nat.reduceLeDiff, Nat.reduceEqDiff, Nat.reduceBEq, Int.reduceToNat, Int.reduceLT, Int.reduceLE, Int.reduceEq, Int.reduceNeg, Try.results11, dcml, dc1])
    exact ⟨by simp [encO, h32], Ext.refl _ _⟩
  · have dc1 : decide (32 < (l.length : Int)) = false := by simp; omega
    repeat (first | (with_reducible refine AW.seq ?_) | (with_reducible refine AW.block ?_) | (with_reducible refine AW.skip ?_) | (with_reducible refine AW.ret ?_) | (with_reducible refine AW.exit ?_) | (with_reducible refine AW.reg hT ?_) | ((with_reducible refine AW.cond_true ?_ ?_); · rfl) | ((with_reducible refine AW.cond_false ?_ ?_); · rfl) | simp (maxDischargeDepth := 12) only [push_cast, appendX, reduceIte, reduceCtorEq, Nat.reduceSub, Nat.reduceAdd, Nat.reduceMul, Nat.reduceLT, Nat.reduceLeDiff, Nat.reduceEqDiff, Nat.reduceBEq, Int.reduceToNat, Int.reduceLT, Int.reduceLE, Int.reduceEq, Int.reduceNeg, Try.results11, dcml, dc1])
    refine AW.loop (szI l σ) (m := l.length + 1) ⟨0, rfl, Nat.zero_le _, by simp, Ext.refl _ _, by (simp only [push_cast, TellsL, tells_any, tells_refl, obsB, List.flatMap_nil])⟩ ?_
    rintro m ts σ3 ⟨i, rfl, hil, hmay, xt3, hts⟩
    refine AW.told hts ?_
    clear hts
    have hbd := obsB_bound hmay
    rw [List.length_take] at hbd
    by_cases hi : i < l.length
    · have dci : decide ((i : Int) < (l.length : Int)) = true := by simp; omega
      have dci2 : ((i : Int) < (l.length : Int)) = True := by simp; omega
      have dci0 : ((0 : Int) ≤ (i : Int)) = True := by simp
      obtain ⟨x, hx⟩ : ∃ x, x = l[i] := ⟨_, rfl⟩
      have dcel : (l.map eO)[i]? = some (eO x) := by rw [List.getElem?_map, List.getElem?_eq_getElem hi, hx]; rfl
      rw [eO_eq] at dcel
      have dcw : IntKind.i64.wrap ((i : Int) + 1) = (i : Int) + 1 := wrap_i64 (by omega) (by omega)
      have dcb : (bytesD x.f2).length = x.f2.length := bytesD_length _
      repeat (first | (with_reducible refine AW.seq ?_) | (with_reducible refine AW.block ?_) | (with_reducible refine AW.skip ?_) | (with_reducible refine AW.ret ?_) | (with_reducible refine AW.exit ?_) | (with_reducible refine AW.reg hT ?_) | ((with_reducible refine AW.cond_true ?_ ?_); · rfl) | ((with_reducible refine AW.cond_false ?_ ?_); · rfl) | simp (maxDischargeDepth := 12) only [push_cast, appendX, reduceIte, reduceCtorEq, Nat.reduceSub, Nat.reduceAdd, Nat.reduceMul, Nat.reduceLT, Nat.reduceLeDiff, Nat.reduceEqDiff, Nat.reduceBEq, Int.reduceToNat, Int.reduceLT, Int.reduceLE, Int.reduceEq, Int.reduceNeg, Try.results11, dcml, dc1, xt3.2, xt3.ltT, xt3.leT, dci, dci2, dci0, dcel, dcw, dcb])
      refine AOpsL.call (first := []) (cap := []) hT rfl rfl rfl fn18 rfl (ACalls.mono (pmay_ok _ x) ?_)
      rintro y σ4 ⟨rfl, xt4⟩
      by_cases hm : mayO x
      · have dcm : decide (mayO x) = true := by simpa using hm
        have hlen := hm.2.2.1
        have hsz : ((obsB (l.take (i + 1))).length : Int) = ((obsB (l.take i)).length : Int) + (4 + (x.f2.length : Int)) := by rw [obsB_take hi, ← hx, List.length_append, obB_length]; omega
        have dcw2 : IntKind.i64.wrap (4 + (x.f2.length : Int)) = 4 + (x.f2.length : Int) := wrap_i64 (by omega) (by omega)
        have dcw3 : IntKind.i64.wrap (((obsB (l.take i)).length : Int) + (4 + (x.f2.length : Int))) = ((obsB (l.take (i + 1))).length : Int) := by rw [wrap_i64 (by omega) (by omega), hsz]
        repeat (first | (with_reducible refine AW.seq ?_) | (with_reducible refine AW.block ?_) | (with_reducible refine AW.skip ?_) | (with_reducible refine AW.ret ?_) | (with_reducible refine AW.exit ?_) | (with_reducible refine AW.reg hT ?_) | ((with_reducible refine AW.cond_true ?_ ?_); · rfl) | ((with_reducible refine AW.cond_false ?_ ?_); · rfl) | simp (maxDischargeDepth := 12) only [push_cast, appendX, reduceIte, reduceCtorEq, Nat.reduceSub, Nat.reduceAdd, Nat.reduceMul, Nat.reduceLT, Nat.reduceLeDiff, Nat.reduceEqDiff, Nat.reduceBEq, Int.reduceToNat, Int.reduceLT, Int.reduceLE, Int.reduceEq, Int.reduceNeg, Try.results11, dcml, dc1, xt3.2, xt3.ltT, xt3.leT, dci, dci2, dci0, dcel, dcw, dcb, xt4.2, xt4.ltT, xt4.leT, dcm, dcw2, dcw3])
        refine ⟨l.length + 1 - (i + 1), by omega, i + 1, rfl, hi, mays_take hi hmay (hx ▸ hm), ?_, by (simp only [push_cast, TellsL, tells_any, tells_refl])⟩
        repeat (first | exact Ext.refl _ _ | assumption | refine Ext.push ?_ _ | ((refine Ext.set ?_ ?_ _); rotate_left; · (simp (maxDischargeDepth := 12) only [push_cast, appendX, Nat.reduceAdd, Nat.reduceEqDiff, Nat.reduceLT, Nat.reduceLeDiff, reduceIte, reduceCtorEq, dcml, dc1, xt3.2, xt3.ltT, xt3.leT, dci, dci2, dci0, dcel, dcw, dcb, xt4.2, xt4.ltT, xt4.leT, dcm, dcw2, dcw3])) | ((refine Ext.then1 (by assumption) ?_ ?_); rotate_left; · (intro p hp _; first | assumption | exact List.mem_cons_of_mem _ hp | (cases hp; done) | (simp at hp; subst hp; simp))))
      · have dcm : decide (mayO x) = false := by simpa using hm
        repeat (first | (with_reducible refine AW.seq ?_) | (with_reducible refine AW.block ?_) | (with_reducible refine AW.skip ?_) | (with_reducible refine AW.ret ?_) | (with_reducible refine AW.exit ?_) | (with_reducible refine AW.reg hT ?_) | ((with_reducible refine AW.cond_true ?_ ?_); · rfl) | ((with_reducible refine AW.cond_false ?_ ?_); · rfl) | simp (maxDischargeDepth := 12) only [push_cast, appendX, reduceIte, reduceCtorEq, Nat.reduceSub, Nat.reduceAdd, Nat.reduceMul, Nat.reduceLT, Nat.reduceLeDiff, Nat.reduceEqDiff, Nat.reduceBEq, Int.reduceToNat, Int.reduceLT, Int.reduceLE, Int.reduceEq, Int.reduceNeg, Try.results11, dcml, dc1, xt3.2, xt3.ltT, xt3.leT, dci, dci2, dci0, dcel, dcw, dcb, xt4.2, xt4.ltT, xt4.leT, dcm])
        refine ⟨?_, ?_⟩
        · have : ¬ ∀ y ∈ l, mayO y := fun h => hm (h x (by rw [hx]; exact List.getElem_mem _))
          simp [encO, h32, this]
        · repeat (first | exact Ext.refl _ _ | assumption | refine Ext.push ?_ _ | ((refine Ext.set ?_ ?_ _); rotate_left; · (simp (maxDischargeDepth := 12) only [push_cast, appendX, Nat.reduceAdd, Nat.reduceEqDiff, Nat.reduceLT, Nat.reduceLeDiff, reduceIte, reduceCtorEq, dcml, dc1, xt3.2, xt3.ltT, xt3.leT, dci, dci2, dci0, dcel, dcw, dcb, xt4.2, xt4.ltT, xt4.leT, dcm])) | ((refine Ext.then1 (by assumption) ?_ ?_); rotate_left; · (intro p hp _; first | assumption | exact List.mem_cons_of_mem _ hp | (cases hp; done) | (simp at hp; subst hp; simp))))
    · have dci : decide ((i : Int) < (l.length : Int)) = false := by simp; omega
      have he : i = l.length := by omega
      subst he
      rw [List.take_length] at hmay ⊢
      by_cases hb : 4096 < (obsB l).length
      · have dcb : decide (4096 < ((obsB l).length : Int)) = true := by simp; omega
        repeat (first | (with_reducible refine AW.seq ?_) | (with_reducible refine AW.block ?_) | (with_reducible refine AW.skip ?_) | (with_reducible refine AW.ret ?_) | (with_reducible refine AW.exit ?_) | (with_reducible refine AW.reg hT ?_) | ((with_reducible refine AW.cond_true ?_ ?_); · rfl) | ((with_reducible refine AW.cond_false ?_ ?_); · rfl) | simp (maxDischargeDepth := 12) only [push_cast, appendX, reduceIte, reduceCtorEq, Nat.reduceSub, Nat.reduceAdd, Nat.reduceMul, Nat.reduceLT, Nat.reduceLeDiff, Nat.reduceEqDiff, Nat.reduceBEq, Int.reduceToNat, Int.reduceLT, Int.reduceLE, Int.reduceEq, Int.reduceNeg, Try.results11, dcml, dc1, xt3.2, xt3.ltT, xt3.leT, dci, dcb])
        exact ⟨by rw [encO, if_neg h32, if_pos hmay, if_pos hb]; rfl, xt3⟩
      · have dcb : decide (4096 < ((obsB l).length : Int)) = false := by simp; omega
        repeat (first | (with_reducible refine AW.seq ?_) | (with_reducible refine AW.block ?_) | (with_reducible refine AW.skip ?_) | (with_reducible refine AW.ret ?_) | (with_reducible refine AW.exit ?_) | (with_reducible refine AW.reg hT ?_) | ((with_reducible refine AW.cond_true ?_ ?_); · rfl) | ((with_reducible refine AW.cond_false ?_ ?_); · rfl) | simp (maxDischargeDepth := 12) only [push_cast, appendX, reduceIte, reduceCtorEq, Nat.reduceSub, Nat.reduceAdd, Nat.reduceMul, Nat.reduceLT, Nat.reduceLeDiff, Nat.reduceEqDiff, Nat.reduceBEq, Int.reduceToNat, Int.reduceLT, Int.reduceLE, Int.reduceEq, Int.reduceNeg, Try.results11, dcml, dc1, xt3.2, xt3.ltT, xt3.leT, dci, dcb])
        exact ⟨by rw [encO, if_neg h32, if_pos hmay, if_neg hb], xt3⟩
/-- Some more behind a row that was made on the way. -/
theorem Hold.appM {σ σ0 : Heap} {d x : DV} {e ty : TypeId} {els xs : List (List DV)} {a b : Nat} {z : List Value} {ei : TI} (h : Hold σ d e els) (hnew : ∀ q ∈ tOf d, σ0.n ≤ q) (hx0 : Ext [] σ0 σ) (h1 : T ty = some ⟨.slice e, a, b, z⟩) (h2 : T e = some ei) (hp : 0 < ei.size)
    (hx : sliceD σ x = some xs) (hall : (xs.all fun el => el.length == ei.size) = true) (hb : (els.length + xs.length) * (ei.bytes + 1) ≤ 140737488355328) :
    ∃ d' σ', appendX T σ ty d x = some (d', σ') ∧ Hold σ' d' e (els ++ xs) ∧ (∀ q ∈ tOf d', σ0.n ≤ q) ∧ Ext [] σ0 σ' ∧ Ext (tOf d) σ σ' := by
  obtain ⟨d', σ', happ, hh, hext, hfp⟩ := h.append0 (T := T) (ty := ty) h1 h2 hp hx hall hb
  refine ⟨d', σ', happ, hh, fun q hq => ?_, hx0.then hext (fun q hq hlq => absurd (hnew q hq) (by omega)), hext⟩
  rcases Nat.lt_or_ge q σ.n with h | h
  · exact hnew q (hfp q h hq)
  · have h1 := hx0.1; omega
def enI (l : List Ob) (σ0 : Heap) (m : Nat) (ts : List DV) (σ : Heap) : Prop := ∃ i d, m = l.length + 1 - i ∧ i ≤ l.length ∧ Hold σ d 5 (bytesD (obsB (l.take i))) ∧ (∀ q ∈ tOf d, σ0.n ≤ q) ∧ Ext [] σ0 σ ∧ TellsL ts (.any :: .any :: .sc (.slice none 0 0) :: .sc (.int .i64 0) :: .any :: .any :: d :: .any :: .any :: .any :: .any :: .any :: .any :: .any :: .any :: .any :: .any :: .any :: .any :: .imm (l.map eO) :: .sc (.int .i64 l.length) :: .sc (.int .i64 i) :: .any :: .any :: .any :: .any :: .any :: .any :: .any :: .any :: .any :: .any :: .any :: .any :: .any :: .any :: .any :: .any :: .any :: .any :: .any :: .any :: .any :: .any :: .any :: .any :: .any :: .any :: .any :: .any :: [])
theorem encode_ok (σ : Heap) (l : List Ob) (hl : l.length ≤ 1000000) : ACalls Try.prog 9 [.imm (l.map eO)] σ (fun x σ' => x = .tup [.imm (bytesD (encO l).1), .sc (.int .i64 (encO l).2)] ∧ Ext [] σ σ') := by
  have dcml : (l.map eO).length = l.length := by simp
  refine ACalls.toImmG (e := 5) (els := bytesD (encO l).1) (fun d => .tup [d, .sc (.int .i64 (encO l).2)]) ?_ ?_ ?_
  · intro t m es d d' h
    obtain ⟨h1, h2⟩ := FZL.spec (t := t) (m := m) (els := es) (l := [d, .sc (.int .i64 (encO l).2)]) (l' := [d', .sc (.int .i64 (encO l).2)]) ⟨h, .keep _, trivial⟩
    exact .tup h1 h2
  · exact Tells.tup ⟨Tells.nil, Tells.refl _, trivial⟩
  refine ACalls.code hT Try.func9 rfl ?_
  simp only [Try.ntmps9, List.length_cons, List.length_nil, Nat.reduceSub, Nat.reduceAdd, List.replicate, List.cons_append, List.nil_append]
  repeat (first | (with_reducible refine AW.seq ?_) | (with_reducible refine AW.block ?_) | (with_reducible refine AW.skip ?_) | (with_reducible refine AW.ret ?_) | (with_reducible refine AW.exit ?_) | (with_reducible refine AW.reg hT ?_) | ((with_reducible refine AW.cond_true ?_ ?_); · rfl) | ((with_reducible refine AW.cond_false ?_ ?_); · rfl) | simp (maxDischargeDepth := 12) only [push_cast, appendX, reduceIte, reduceCtorEq, Nat.reduceSub, Nat.reduceAdd, Nat.reduceMul, Nat.reduceLT, Nat.reduceLeDiff, Nat.reduceEqDiff, Nat.reduceBEq, Int.reduceToNat, Int.reduceLT, Int.reduceLE, Int.reduceEq, Int.reduceNeg, Try.results9, dcml])
  refine AOpsL.call (first := []) (cap := []) hT rfl rfl rfl fn11 rfl (ACalls.mono (size_ok _ l hl) ?_)
  rintro x σ1 ⟨rfl, xt1⟩
  by_cases he : (encO l).2 = 0
  · have dce : ((encO l).2 == 0) = true := by simpa using he
    have hall : encO l = (obsB l, 0) ∧ (∀ x ∈ l, mayO x) ∧ l.length ≤ 32 ∧ (obsB l).length ≤ 4096 := by
      revert he; unfold encO
      split
      · simp
      · split
        · split
          · simp
          · intro _; rename_i h1 h2 h3; exact ⟨rfl, by assumption, by omega, by omega⟩
        · simp
    obtain ⟨hen, hmay, h32, h4⟩ := hall
    have dca : (0 ≤ ((encO l).1.length : Int)) = True := by simp
    have dcb : (encO l).1.length * 2 ≤ 140737488355328 := by rw [hen]; simp; omega
    repeat (first | (with_reducible refine AW.seq ?_) | (with_reducible refine AW.block ?_) | (with_reducible refine AW.skip ?_) | (with_reducible refine AW.ret ?_) | (with_reducible refine AW.exit ?_) | (with_reducible refine AW.reg hT ?_) | ((with_reducible refine AW.cond_true ?_ ?_); · rfl) | ((with_reducible refine AW.cond_false ?_ ?_); · rfl) | simp (maxDischargeDepth := 12) only [push_cast, appendX, reduceIte, reduceCtorEq, Nat.reduceSub, Nat.reduceAdd, Nat.reduceMul, Nat.reduceLT, Nat.reduceLeDiff, Nat.reduceEqDiff, Nat.reduceBEq, Int.reduceToNat, Int.reduceLT, Int.reduceLE, Int.reduceEq, Int.reduceNeg, Try.results9, dcml, xt1.2, xt1.ltT, xt1.leT, dce, dca, dcb])
    refine AW.loop (enI l σ) (m := l.length + 1) ⟨0, .sl σ1.n 0 0 0, rfl, Nat.zero_le _, .inr ⟨σ1.n, [], rfl, Heap.get_push, Nat.le_refl _, rfl⟩, by simp [tOf]; exact xt1.1, xt1.push _, by (simp only [push_cast, TellsL, tells_any, tells_refl])⟩ ?_
    clear dca dcb dce
    rintro m ts σ3 ⟨i, d, rfl, hil, hh, hnew, xt3, hts⟩
    refine AW.told hts ?_
    clear hts
    by_cases hi : i < l.length
    · have dci : decide ((i : Int) < (l.length : Int)) = true := by simp; omega
      have dci2 : ((i : Int) < (l.length : Int)) = True := by simp; omega
      have dci0 : ((0 : Int) ≤ (i : Int)) = True := by simp
      obtain ⟨x, hx⟩ : ∃ x, x = l[i] := ⟨_, rfl⟩
      have hmx : mayO x := hmay x (by rw [hx]; exact List.getElem_mem _)
      have hlen := hmx.2.2.1
      have dcel : (l.map eO)[i]? = some (eO x) := by rw [List.getElem?_map, List.getElem?_eq_getElem hi, hx]; rfl
      rw [eO_eq] at dcel
      have dcw : IntKind.i64.wrap ((i : Int) + 1) = (i : Int) + 1 := wrap_i64 (by omega) (by omega)
      have dcb : (bytesD x.f2).length = x.f2.length := bytesD_length _
      have dcw2 : IntKind.i64.wrap (4 + (x.f2.length : Int)) = 4 + (x.f2.length : Int) := wrap_i64 (by omega) (by omega)
      have dcw3 : IntKind.u64.wrap (4 + (x.f2.length : Int)) = 4 + (x.f2.length : Int) := wrap_u64 (by omega) (by omega)
      have dcw4 : IntKind.u8.wrap x.f0 = x.f0 := wrap_u8 hmx.1.1 (by have := hmx.1.2; omega)
      have dcw5 : IntKind.u8.wrap x.f1 = x.f1 := wrap_u8 hmx.2.1.1 (by have := hmx.2.1.2; omega)
      have hbt : (obsB (l.take i)).length ≤ 1000000 := by
        have := obsB_bound (l := l.take i) (fun y hy => hmay y (List.mem_of_mem_take hy))
        rw [List.length_take] at this; omega
      repeat (first | (with_reducible refine AW.seq ?_) | (with_reducible refine AW.block ?_) | (with_reducible refine AW.skip ?_) | (with_reducible refine AW.ret ?_) | (with_reducible refine AW.exit ?_) | (with_reducible refine AW.reg hT ?_) | ((with_reducible refine AW.cond_true ?_ ?_); · rfl) | ((with_reducible refine AW.cond_false ?_ ?_); · rfl) | simp (maxDischargeDepth := 12) only [push_cast, appendX, reduceIte, reduceCtorEq, Nat.reduceSub, Nat.reduceAdd, Nat.reduceMul, Nat.reduceLT, Nat.reduceLeDiff, Nat.reduceEqDiff, Nat.reduceBEq, Int.reduceToNat, Int.reduceLT, Int.reduceLE, Int.reduceEq, Int.reduceNeg, Try.results9, dcml, xt1.2, xt1.ltT, xt1.leT, xt3.2, xt3.ltT, xt3.leT, dci, dci2, dci0, dcel, dcw, dcb, dcw2, dcw3, dcw4, dcw5])
      refine AOpsL.call (first := []) (cap := []) hT rfl rfl rfl fn17 rfl (ACalls.mono (put_ok _ d (obsB (l.take i)) 2 (4 + (x.f2.length : Int)) ((hh.frame (X := []) (by repeat (first | exact Ext.refl _ _ | assumption | refine Ext.push ?_ _ | ((refine Ext.set ?_ ?_ _); rotate_left; · (simp (maxDischargeDepth := 12) only [push_cast, appendX, Nat.reduceAdd, Nat.reduceEqDiff, Nat.reduceLT, Nat.reduceLeDiff, reduceIte, reduceCtorEq, dcml, xt1.2, xt1.ltT, xt1.leT, xt3.2, xt3.ltT, xt3.leT, dci, dci2, dci0, dcel, dcw, dcb, dcw2, dcw3, dcw4, dcw5])) | ((refine Ext.then1 (by assumption) ?_ ?_); rotate_left; · (intro p hp _; first | assumption | exact List.mem_cons_of_mem _ hp | (cases hp; done) | (simp at hp; subst hp; simp))))) (by simp)).src) (hold_len hh) hbt (by decide) (by decide) (by omega) (fun _ => by omega)) ?_)
      rintro y σ4 ⟨d4, rfl, hh4, hnew4, xt4⟩
      have hdl := digits_length 2 (4 + (x.f2.length : Int))
      have xt5 : Ext [] σ σ4 := by repeat (first | exact Ext.refl _ _ | assumption | refine Ext.push ?_ _ | ((refine Ext.set ?_ ?_ _); rotate_left; · (simp (maxDischargeDepth := 12) only [push_cast, appendX, Nat.reduceAdd, Nat.reduceEqDiff, Nat.reduceLT, Nat.reduceLeDiff, reduceIte, reduceCtorEq, dcml, xt1.2, xt1.ltT, xt1.leT, xt3.2, xt3.ltT, xt3.leT, dci, dci2, dci0, dcel, dcw, dcb, dcw2, dcw3, dcw4, dcw5, xt4.2, xt4.ltT, xt4.leT])) | ((refine Ext.then1 (by assumption) ?_ ?_); rotate_left; · (intro p hp _; first | assumption | exact List.mem_cons_of_mem _ hp | (cases hp; done) | (simp at hp; subst hp; simp))))
      obtain ⟨d5, σ5, dnapp5, hh5, hnew5, xt6, he5⟩ := Hold.appM (ty := 25) (x := .sl σ4.n 0 2 2) (xs := [[.sc (.int .u8 x.f0)], [.sc (.int .u8 x.f1)]]) (σ := σ4.push ⟨[[.sc (.int .u8 x.f0)], [.sc (.int .u8 x.f1)]], 5, true⟩) (hh4.frame (X := []) (by repeat (first | exact Ext.refl _ _ | assumption | refine Ext.push ?_ _ | ((refine Ext.set ?_ ?_ _); rotate_left; · (simp (maxDischargeDepth := 12) only [push_cast, appendX, Nat.reduceAdd, Nat.reduceEqDiff, Nat.reduceLT, Nat.reduceLeDiff, reduceIte, reduceCtorEq, dcml, xt1.2, xt1.ltT, xt1.leT, xt3.2, xt3.ltT, xt3.leT, dci, dci2, dci0, dcel, dcw, dcb, dcw2, dcw3, dcw4, dcw5, xt4.2, xt4.ltT, xt4.leT, xt5.2, xt5.ltT, xt5.leT])) | ((refine Ext.then1 (by assumption) ?_ ?_); rotate_left; · (intro p hp _; first | assumption | exact List.mem_cons_of_mem _ hp | (cases hp; done) | (simp at hp; subst hp; simp))))) (by simp)) (fun q hq => Nat.le_trans xt3.1 (by have := hnew4 q hq; simp at this; omega)) (xt5.push _) rfl rfl (by decide) (by simp (maxDischargeDepth := 12) only [push_cast, appendX, reduceIte, reduceCtorEq, Nat.reduceSub, Nat.reduceAdd, Nat.reduceMul, Nat.reduceLT, Nat.reduceLeDiff, Nat.reduceEqDiff, Nat.reduceBEq, Int.reduceToNat, Int.reduceLT, Int.reduceLE, Int.reduceEq, Int.reduceNeg, sliceD, dcml, xt1.2, xt1.ltT, xt1.leT, xt3.2, xt3.ltT, xt3.leT, dci, dci2, dci0, dcel, dcw, dcb, dcw2, dcw3, dcw4, dcw5, xt4.2, xt4.ltT, xt4.leT, xt5.2, xt5.ltT, xt5.leT]) rfl (by rw [bytesD_length, List.length_append, hdl]; simp; omega)
      have hob : obsB (l.take (i + 1)) = obsB (l.take i) ++ digits 2 (4 + (x.f2.length : Int)) ++ [x.f0, x.f1] ++ x.f2 := by
        rw [obsB_take hi, ← hx, obB, Int.add_comm (x.f2.length : Int) 4]; simp
      obtain ⟨d6, σ6, dnapp6, hh6, hnew6, xt7, he6⟩ := Hold.appM (ty := 25) (x := .imm (bytesD x.f2)) hh5 hnew5 xt6 rfl rfl (by decide) rfl (bytes_all _) (by simp only [List.length_append, bytesD_length, hdl, List.length_cons, List.length_nil]; omega)
      have dnb5 : σ5.get σ3.n = some ⟨[[.sc (.int .i64 x.f0), .sc (.int .i64 x.f1), .imm (bytesD x.f2)]], 44, true⟩ := by
        refine he5.get ?_ (fun hm => ?_)
        · simp (maxDischargeDepth := 12) only [push_cast, appendX, Nat.reduceAdd, Nat.reduceEqDiff, Nat.reduceLT, Nat.reduceLeDiff, reduceIte, reduceCtorEq, dcml, xt1.2, xt1.ltT, xt1.leT, xt3.2, xt3.ltT, xt3.leT, dci, dci2, dci0, dcel, dcw, dcb, dcw2, dcw3, dcw4, dcw5, xt4.2, xt4.ltT, xt4.leT, xt5.2, xt5.ltT, xt5.leT, ↓dnapp5, xt6.2, xt6.ltT, xt6.leT, ↓dnapp6, xt7.2, xt7.ltT, xt7.leT]
        · have := hnew4 _ hm; rw [Heap.n_set, Heap.n_push] at this; omega
      repeat (first | (with_reducible refine AW.seq ?_) | (with_reducible refine AW.block ?_) | (with_reducible refine AW.skip ?_) | (with_reducible refine AW.ret ?_) | (with_reducible refine AW.exit ?_) | (with_reducible refine AW.reg hT ?_) | ((with_reducible refine AW.cond_true ?_ ?_); · rfl) | ((with_reducible refine AW.cond_false ?_ ?_); · rfl) | simp (maxDischargeDepth := 12) only [push_cast, appendX, reduceIte, reduceCtorEq, Nat.reduceSub, Nat.reduceAdd, Nat.reduceMul, Nat.reduceLT, Nat.reduceLeDiff, Nat.reduceEqDiff, Nat.reduceBEq, Int.reduceToNat, Int.reduceLT, Int.reduceLE, Int.reduceEq, Int.reduceNeg, Try.results9, dcml, xt1.2, xt1.ltT, xt1.leT, xt3.2, xt3.ltT, xt3.leT, dci, dci2, dci0, dcel, dcw, dcb, dcw2, dcw3, dcw4, dcw5, xt4.2, xt4.ltT, xt4.leT, xt5.2, xt5.ltT, xt5.leT, ↓dnapp5, xt6.2, xt6.ltT, xt6.leT, ↓dnapp6, xt7.2, xt7.ltT, xt7.leT, ↓dnb5])
      refine ⟨l.length + 1 - (i + 1), by omega, i + 1, d6, rfl, hi, ?_, hnew6, xt7, by (simp only [push_cast, TellsL, tells_any, tells_refl])⟩
      rw [hob, bytesD_append, bytesD_append]; exact hh6
    · have dci : decide ((i : Int) < (l.length : Int)) = false := by simp; omega
      have he : i = l.length := by omega
      subst he
      rw [List.take_length] at hh
      have dncl := hh.cells
      have dnlf := hh.leaf
      repeat (first | (with_reducible refine AW.seq ?_) | (with_reducible refine AW.block ?_) | (with_reducible refine AW.skip ?_) | (with_reducible refine AW.ret ?_) | (with_reducible refine AW.exit ?_) | (with_reducible refine AW.reg hT ?_) | ((with_reducible refine AW.cond_true ?_ ?_); · rfl) | ((with_reducible refine AW.cond_false ?_ ?_); · rfl) | simp (maxDischargeDepth := 12) only [push_cast, appendX, reduceIte, reduceCtorEq, Nat.reduceSub, Nat.reduceAdd, Nat.reduceMul, Nat.reduceLT, Nat.reduceLeDiff, Nat.reduceEqDiff, Nat.reduceBEq, Int.reduceToNat, Int.reduceLT, Int.reduceLE, Int.reduceEq, Int.reduceNeg, Try.results9, dcml, xt1.2, xt1.ltT, xt1.leT, xt3.2, xt3.ltT, xt3.leT, dci, ↓dncl, ↓dnlf])
      exact ⟨d, by rw [hen], by rw [hen]; exact hh, hnew, xt3⟩
  · have dce : ((encO l).2 == 0) = false := by simpa using he
    repeat (first | (with_reducible refine AW.seq ?_) | (with_reducible refine AW.block ?_) | (with_reducible refine AW.skip ?_) | (with_reducible refine AW.ret ?_) | (with_reducible refine AW.exit ?_) | (with_reducible refine AW.reg hT ?_) | ((with_reducible refine AW.cond_true ?_ ?_); · rfl) | ((with_reducible refine AW.cond_false ?_ ?_); · rfl) | simp (maxDischargeDepth := 12) only [push_cast, appendX, reduceIte, reduceCtorEq, Nat.reduceSub, Nat.reduceAdd, Nat.reduceMul, Nat.reduceLT, Nat.reduceLeDiff, Nat.reduceEqDiff, Nat.reduceBEq, Int.reduceToNat, Int.reduceLT, Int.reduceLE, Int.reduceEq, Int.reduceNeg, Try.results9, dcml, xt1.2, xt1.ltT, xt1.leT, dce])
    refine ⟨_, rfl, ?_, by simp [tOf], xt1⟩
    have : (encO l).1 = [] := by
      revert he; unfold encO
      split
      · simp
      · split
        · split <;> simp
        · simp
    rw [this]; exact Hold.nil _ _
theorem rbytes_ok (σ : Heap) (x : Ob) (hx : x.f2.length ≤ 1000000) (h0 : 0 ≤ x.f0 ∧ x.f0 ≤ 255) (h1 : 0 ≤ x.f1 ∧ x.f1 ≤ 255) : ACalls Try.prog 20 [.agg (eO x)] σ (fun y σ' => y = .imm (bytesD (obB x)) ∧ Ext [] σ σ') := by
  refine ACalls.toImmH (e := 5) ?_
  have dcb : (bytesD x.f2).length = x.f2.length := bytesD_length _
  have dcw2 : IntKind.i64.wrap ((x.f2.length : Int) + 4) = (x.f2.length : Int) + 4 := wrap_i64 (by omega) (by omega)
  have dcw3 : IntKind.u64.wrap ((x.f2.length : Int) + 4) = (x.f2.length : Int) + 4 := wrap_u64 (by omega) (by omega)
  have dcw4 : IntKind.u8.wrap x.f0 = x.f0 := wrap_u8 h0.1 (by omega)
  have dcw5 : IntKind.u8.wrap x.f1 = x.f1 := wrap_u8 h1.1 (by omega)
  simp only [eO_eq]
  refine ACalls.code hT Try.func20 rfl ?_
  simp only [Try.ntmps20, List.length_cons, List.length_nil, Nat.reduceSub, Nat.reduceAdd, List.replicate, List.cons_append, List.nil_append]
  repeat (first | (with_reducible refine AW.seq ?_) | (with_reducible refine AW.block ?_) | (with_reducible refine AW.skip ?_) | (with_reducible refine AW.ret ?_) | (with_reducible refine AW.exit ?_) | (with_reducible refine AW.reg hT ?_) | ((with_reducible refine AW.cond_true ?_ ?_); · rfl) | ((with_reducible refine AW.cond_false ?_ ?_); · rfl) | simp (maxDischargeDepth := 12) only [push_cast, appendX, reduceIte, reduceCtorEq, Nat.reduceSub, Nat.reduceAdd, Nat.reduceMul, Nat.reduceLT, Nat.reduceLeDiff, Nat.reduceEqDiff, Nat.reduceBEq, Int.reduceToNat, Int.reduceLT, Int.reduceLE, Int.reduceEq, Int.reduceNeg, Try.results20, dcb, dcw2, dcw3, dcw4, dcw5])
  refine AOpsL.call (first := []) (cap := []) hT rfl rfl rfl fn27 rfl (ACalls.mono (digits_own _ 2 ((x.f2.length : Int) + 4) (by decide) (by omega) (by omega)) ?_)
  rintro y σ1 ⟨hh1, hnew1, xt1⟩
  have hdl := digits_length 2 ((x.f2.length : Int) + 4)
  have xt2 : Ext [] σ σ1 := by repeat (first | exact Ext.refl _ _ | assumption | refine Ext.push ?_ _ | ((refine Ext.set ?_ ?_ _); rotate_left; · (simp (maxDischargeDepth := 12) only [push_cast, appendX, Nat.reduceAdd, Nat.reduceEqDiff, Nat.reduceLT, Nat.reduceLeDiff, reduceIte, reduceCtorEq, dcb, dcw2, dcw3, dcw4, dcw5, xt1.2, xt1.ltT, xt1.leT])) | ((refine Ext.then1 (by assumption) ?_ ?_); rotate_left; · (intro p hp _; first | assumption | exact List.mem_cons_of_mem _ hp | (cases hp; done) | (simp at hp; subst hp; simp))))
  obtain ⟨d5, σ5, dnapp5, hh5, hnew5, xt6, he5⟩ := Hold.appM (ty := 25) (σ0 := σ) (x := .sl σ1.n 0 2 2) (xs := [[.sc (.int .u8 x.f0)], [.sc (.int .u8 x.f1)]]) (σ := σ1.push ⟨[[.sc (.int .u8 x.f0)], [.sc (.int .u8 x.f1)]], 5, true⟩) (hh1.frame (X := []) (by repeat (first | exact Ext.refl _ _ | assumption | refine Ext.push ?_ _ | ((refine Ext.set ?_ ?_ _); rotate_left; · (simp (maxDischargeDepth := 12) only [push_cast, appendX, Nat.reduceAdd, Nat.reduceEqDiff, Nat.reduceLT, Nat.reduceLeDiff, reduceIte, reduceCtorEq, dcb, dcw2, dcw3, dcw4, dcw5, xt1.2, xt1.ltT, xt1.leT, xt2.2, xt2.ltT, xt2.leT])) | ((refine Ext.then1 (by assumption) ?_ ?_); rotate_left; · (intro p hp _; first | assumption | exact List.mem_cons_of_mem _ hp | (cases hp; done) | (simp at hp; subst hp; simp))))) (by simp)) (fun q hq => by have := hnew1 q hq; rw [Heap.n_push] at this; omega) (xt2.push _) rfl rfl (by decide) (by simp (maxDischargeDepth := 12) only [push_cast, appendX, reduceIte, reduceCtorEq, Nat.reduceSub, Nat.reduceAdd, Nat.reduceMul, Nat.reduceLT, Nat.reduceLeDiff, Nat.reduceEqDiff, Nat.reduceBEq, Int.reduceToNat, Int.reduceLT, Int.reduceLE, Int.reduceEq, Int.reduceNeg, sliceD, dcb, dcw2, dcw3, dcw4, dcw5, xt1.2, xt1.ltT, xt1.leT, xt2.2, xt2.ltT, xt2.leT]) rfl (by rw [bytesD_length, hdl]; simp)
  obtain ⟨d6, σ6, dnapp6, hh6, hnew6, xt7, he6⟩ := Hold.appM (ty := 25) (x := .imm (bytesD x.f2)) hh5 hnew5 xt6 rfl rfl (by decide) rfl (bytes_all _) (by simp only [List.length_append, bytesD_length, hdl, List.length_cons, List.length_nil]; omega)
  have dnb5 : σ5.get σ.n = some ⟨[[.sc (.int .i64 x.f0), .sc (.int .i64 x.f1), .imm (bytesD x.f2)]], 45, true⟩ := by
    refine he5.get ?_ (fun hm => ?_)
    · simp (maxDischargeDepth := 12) only [push_cast, appendX, Nat.reduceAdd, Nat.reduceEqDiff, Nat.reduceLT, Nat.reduceLeDiff, reduceIte, reduceCtorEq, dcb, dcw2, dcw3, dcw4, dcw5, xt1.2, xt1.ltT, xt1.leT, xt2.2, xt2.ltT, xt2.leT, ↓dnapp5, xt6.2, xt6.ltT, xt6.leT, ↓dnapp6, xt7.2, xt7.ltT, xt7.leT]
    · have := hnew1 _ hm; rw [Heap.n_push] at this; omega
  repeat (first | (with_reducible refine AW.seq ?_) | (with_reducible refine AW.block ?_) | (with_reducible refine AW.skip ?_) | (with_reducible refine AW.ret ?_) | (with_reducible refine AW.exit ?_) | (with_reducible refine AW.reg hT ?_) | ((with_reducible refine AW.cond_true ?_ ?_); · rfl) | ((with_reducible refine AW.cond_false ?_ ?_); · rfl) | simp (maxDischargeDepth := 12) only [push_cast, appendX, reduceIte, reduceCtorEq, Nat.reduceSub, Nat.reduceAdd, Nat.reduceMul, Nat.reduceLT, Nat.reduceLeDiff, Nat.reduceEqDiff, Nat.reduceBEq, Int.reduceToNat, Int.reduceLT, Int.reduceLE, Int.reduceEq, Int.reduceNeg, Try.results20, dcb, dcw2, dcw3, dcw4, dcw5, xt1.2, xt1.ltT, xt1.leT, xt2.2, xt2.ltT, xt2.leT, ↓dnapp5, xt6.2, xt6.ltT, xt6.leT, ↓dnapp6, xt7.2, xt7.ltT, xt7.leT, ↓dnb5])
  have dncl := hh6.cells
  have dnlf := hh6.leaf
  repeat (first | (with_reducible refine AW.seq ?_) | (with_reducible refine AW.block ?_) | (with_reducible refine AW.skip ?_) | (with_reducible refine AW.ret ?_) | (with_reducible refine AW.exit ?_) | (with_reducible refine AW.reg hT ?_) | ((with_reducible refine AW.cond_true ?_ ?_); · rfl) | ((with_reducible refine AW.cond_false ?_ ?_); · rfl) | simp (maxDischargeDepth := 12) only [push_cast, appendX, reduceIte, reduceCtorEq, Nat.reduceSub, Nat.reduceAdd, Nat.reduceMul, Nat.reduceLT, Nat.reduceLeDiff, Nat.reduceEqDiff, Nat.reduceBEq, Int.reduceToNat, Int.reduceLT, Int.reduceLE, Int.reduceEq, Int.reduceNeg, Try.results20, dcb, dcw2, dcw3, dcw4, dcw5, xt1.2, xt1.ltT, xt1.leT, xt2.2, xt2.ltT, xt2.leT, ↓dnapp5, xt6.2, xt6.ltT, xt6.leT, ↓dnapp6, xt7.2, xt7.ltT, xt7.leT, ↓dnb5, ↓dncl, ↓dnlf])
  refine ⟨?_, hnew6, xt7⟩
  rw [obB, bytesD_append, bytesD_append]; exact hh6
def reI (l : List Ob) (σ0 : Heap) (m : Nat) (ts : List DV) (σ : Heap) : Prop := ∃ i d, m = l.length + 1 - i ∧ i ≤ l.length ∧ (∀ x ∈ l.take i, mayO x) ∧ Hold σ d 5 (bytesD (obsB (l.take i))) ∧ (∀ q ∈ tOf d, σ0.n ≤ q) ∧ Ext [] σ0 σ ∧ TellsL ts (.imm (l.map eO) :: .any :: .sc (.slice none 0 0) :: .sc (.int .i64 0) :: d :: .sc (.int .i64 i) :: .any :: .any :: .any :: .any :: .any :: .any :: .any :: .any :: .any :: .any :: .any :: .any :: .any :: .any :: .any :: .any :: .any :: .any :: .any :: .any :: .any :: .any :: .any :: .any :: .any :: .any :: [])
theorem rencode_ok (σ : Heap) (l : List Ob) (hl : l.length ≤ 1000000) : ACalls Try.prog 12 [.imm (l.map eO)] σ (fun x σ' => x = .tup [.imm (bytesD (encO l).1), .sc (.int .i64 (encO l).2)] ∧ Ext [] σ σ') := by
  have dcml : (l.map eO).length = l.length := by simp
  refine ACalls.toImmG (e := 5) (els := bytesD (encO l).1) (fun d => .tup [d, .sc (.int .i64 (encO l).2)]) ?_ ?_ ?_
  · intro t m es d d' h
    obtain ⟨h1, h2⟩ := FZL.spec (t := t) (m := m) (els := es) (l := [d, .sc (.int .i64 (encO l).2)]) (l' := [d', .sc (.int .i64 (encO l).2)]) ⟨h, .keep _, trivial⟩
    exact .tup h1 h2
  · exact Tells.tup ⟨Tells.nil, Tells.refl _, trivial⟩
  refine ACalls.code hT Try.func12 rfl ?_
  simp only [Try.ntmps12, List.length_cons, List.length_nil, Nat.reduceSub, Nat.reduceAdd, List.replicate, List.cons_append, List.nil_append]
  by_cases h32 : 32 < l.length
  · have dc1 : decide (32 < (l.length : Int)) = true := by simp; omega
    repeat (first | (with_reducible refine AW.seq ?_) | (with_reducible refine AW.block ?_) | (with_reducible refine AW.skip ?_) | (with_reducible refine AW.ret ?_) | (with_reducible refine AW.exit ?_) | (with_reducible refine AW.reg hT ?_) | ((with_reducible refine AW.cond_true ?_ ?_); · rfl) | ((with_reducible refine AW.cond_false ?_ ?_); · rfl) | simp (maxDischargeDepth := 12) only [push_cast, appendX, reduceIte, reduceCtorEq, Nat.reduceSub, Nat.reduceAdd, Nat.reduceMul, Nat.reduceLT, Nat.reduceLeDiff, Nat.reduceEqDiff, Nat.reduceBEq, Int.reduceToNat, Int.reduceLT, Int.reduceLE, Int.reduceEq, Int.reduceNeg, Try.results12, dcml, dc1])
    have : encO l = ([], 3) := by rw [encO, if_pos h32]
    exact ⟨_, by rw [this], by rw [this]; exact Hold.nil _ _, by simp [tOf], Ext.refl _ _⟩
  · have dc1 : decide (32 < (l.length : Int)) = false := by simp; omega
    repeat (first | (with_reducible refine AW.seq ?_) | (with_reducible refine AW.block ?_) | (with_reducible refine AW.skip ?_) | (with_reducible refine AW.ret ?_) | (with_reducible refine AW.exit ?_) | (with_reducible refine AW.reg hT ?_) | ((with_reducible refine AW.cond_true ?_ ?_); · rfl) | ((with_reducible refine AW.cond_false ?_ ?_); · rfl) | simp (maxDischargeDepth := 12) only [push_cast, appendX, reduceIte, reduceCtorEq, Nat.reduceSub, Nat.reduceAdd, Nat.reduceMul, Nat.reduceLT, Nat.reduceLeDiff, Nat.reduceEqDiff, Nat.reduceBEq, Int.reduceToNat, Int.reduceLT, Int.reduceLE, Int.reduceEq, Int.reduceNeg, Try.results12, dcml, dc1])
    refine AW.loop (reI l σ) (m := l.length + 1) ⟨0, .sc (.slice none 0 0), rfl, Nat.zero_le _, by simp, Hold.nil _ _, by simp [tOf], Ext.refl _ _, by (simp only [push_cast, TellsL, tells_any, tells_refl])⟩ ?_
    rintro m ts σ3 ⟨i, d, rfl, hil, hmay, hh, hnew, xt3, hts⟩
    refine AW.told hts ?_
    clear hts
    have hbd := obsB_bound hmay
    rw [List.length_take] at hbd
    by_cases hi : i < l.length
    · have dci : decide ((i : Int) < (l.length : Int)) = true := by simp; omega
      have dci2 : ((i : Int) < (l.length : Int)) = True := by simp; omega
      have dci0 : ((0 : Int) ≤ (i : Int)) = True := by simp
      obtain ⟨x, hx⟩ : ∃ x, x = l[i] := ⟨_, rfl⟩
      have dcel : (l.map eO)[i]? = some (eO x) := by rw [List.getElem?_map, List.getElem?_eq_getElem hi, hx]; rfl
      rw [eO_eq] at dcel
      have dcw : IntKind.i64.wrap ((i : Int) + 1) = (i : Int) + 1 := wrap_i64 (by omega) (by omega)
      repeat (first | (with_reducible refine AW.seq ?_) | (with_reducible refine AW.block ?_) | (with_reducible refine AW.skip ?_) | (with_reducible refine AW.ret ?_) | (with_reducible refine AW.exit ?_) | (with_reducible refine AW.reg hT ?_) | ((with_reducible refine AW.cond_true ?_ ?_); · rfl) | ((with_reducible refine AW.cond_false ?_ ?_); · rfl) | simp (maxDischargeDepth := 12) only [push_cast, appendX, reduceIte, reduceCtorEq, Nat.reduceSub, Nat.reduceAdd, Nat.reduceMul, Nat.reduceLT, Nat.reduceLeDiff, Nat.reduceEqDiff, Nat.reduceBEq, Int.reduceToNat, Int.reduceLT, Int.reduceLE, Int.reduceEq, Int.reduceNeg, Try.results12, dcml, dc1, xt3.2, xt3.ltT, xt3.leT, dci, dci2, dci0, dcel, dcw])
      refine AOpsL.call (first := []) (cap := []) hT rfl rfl rfl fn19 rfl (ACalls.mono (rmay_ok _ x) ?_)
      rintro y σ4 ⟨rfl, xt4⟩
      by_cases hm : mayO x
      · have dcm : decide (mayO x) = true := by simpa using hm
        have hlen := hm.2.2.1
        repeat (first | (with_reducible refine AW.seq ?_) | (with_reducible refine AW.block ?_) | (with_reducible refine AW.skip ?_) | (with_reducible refine AW.ret ?_) | (with_reducible refine AW.exit ?_) | (with_reducible refine AW.reg hT ?_) | ((with_reducible refine AW.cond_true ?_ ?_); · rfl) | ((with_reducible refine AW.cond_false ?_ ?_); · rfl) | simp (maxDischargeDepth := 12) only [push_cast, appendX, reduceIte, reduceCtorEq, Nat.reduceSub, Nat.reduceAdd, Nat.reduceMul, Nat.reduceLT, Nat.reduceLeDiff, Nat.reduceEqDiff, Nat.reduceBEq, Int.reduceToNat, Int.reduceLT, Int.reduceLE, Int.reduceEq, Int.reduceNeg, Try.results12, dcml, dc1, xt3.2, xt3.ltT, xt3.leT, dci, dci2, dci0, dcel, dcw, xt4.2, xt4.ltT, xt4.leT, dcm])
        refine AOpsL.call (first := []) (cap := []) hT rfl rfl rfl fn20 rfl (ACalls.mono (rbytes_ok _ x (by omega) hm.1 hm.2.1) ?_)
        rintro y σ5 ⟨rfl, xt5⟩
        obtain ⟨d6, σ6, dnapp6, hh6, hnew6, xt7, he6⟩ := Hold.appM (ty := 25) (x := .imm (bytesD (obB x))) (hh.frame (X := []) (xt4.trans xt5) (by simp)) hnew ((xt3.trans xt4).trans xt5) rfl rfl (by decide) rfl (bytes_all _) (by simp only [bytesD_length, obB_length]; omega)
        repeat (first | (with_reducible refine AW.seq ?_) | (with_reducible refine AW.block ?_) | (with_reducible refine AW.skip ?_) | (with_reducible refine AW.ret ?_) | (with_reducible refine AW.exit ?_) | (with_reducible refine AW.reg hT ?_) | ((with_reducible refine AW.cond_true ?_ ?_); · rfl) | ((with_reducible refine AW.cond_false ?_ ?_); · rfl) | simp (maxDischargeDepth := 12) only [push_cast, appendX, reduceIte, reduceCtorEq, Nat.reduceSub, Nat.reduceAdd, Nat.reduceMul, Nat.reduceLT, Nat.reduceLeDiff, Nat.reduceEqDiff, Nat.reduceBEq, Int.reduceToNat, Int.reduceLT, Int.reduceLE, Int.reduceEq, Int.reduceNeg, Try.results12, dcml, dc1, xt3.2, xt3.ltT, xt3.leT, dci, dci2, dci0, dcel, dcw, xt4.2, xt4.ltT, xt4.leT, dcm, xt5.2, xt5.ltT, xt5.leT, ↓dnapp6, xt7.2, xt7.ltT, xt7.leT])
        refine ⟨l.length + 1 - (i + 1), by omega, i + 1, d6, rfl, hi, mays_take hi hmay (hx ▸ hm), ?_, hnew6, xt7, by (simp only [push_cast, TellsL, tells_any, tells_refl])⟩
        rw [obsB_take hi, ← hx, bytesD_append]; exact hh6
      · have dcm : decide (mayO x) = false := by simpa using hm
        repeat (first | (with_reducible refine AW.seq ?_) | (with_reducible refine AW.block ?_) | (with_reducible refine AW.skip ?_) | (with_reducible refine AW.ret ?_) | (with_reducible refine AW.exit ?_) | (with_reducible refine AW.reg hT ?_) | ((with_reducible refine AW.cond_true ?_ ?_); · rfl) | ((with_reducible refine AW.cond_false ?_ ?_); · rfl) | simp (maxDischargeDepth := 12) only [push_cast, appendX, reduceIte, reduceCtorEq, Nat.reduceSub, Nat.reduceAdd, Nat.reduceMul, Nat.reduceLT, Nat.reduceLeDiff, Nat.reduceEqDiff, Nat.reduceBEq, Int.reduceToNat, Int.reduceLT, Int.reduceLE, Int.reduceEq, Int.reduceNeg, Try.results12, dcml, dc1, xt3.2, xt3.ltT, xt3.leT, dci, dci2, dci0, dcel, dcw, xt4.2, xt4.ltT, xt4.leT, dcm])
        have hno : ¬ ∀ y ∈ l, mayO y := fun h => hm (h x (by rw [hx]; exact List.getElem_mem _))
        have : encO l = ([], 2) := by rw [encO, if_neg h32, if_neg hno]
        exact ⟨_, by rw [this], by rw [this]; exact Hold.nil _ _, by simp [tOf], by repeat (first | exact Ext.refl _ _ | assumption | refine Ext.push ?_ _ | ((refine Ext.set ?_ ?_ _); rotate_left; · (simp (maxDischargeDepth := 12) only [push_cast, appendX, Nat.reduceAdd, Nat.reduceEqDiff, Nat.reduceLT, Nat.reduceLeDiff, reduceIte, reduceCtorEq, dcml, dc1, xt3.2, xt3.ltT, xt3.leT, dci, dci2, dci0, dcel, dcw, xt4.2, xt4.ltT, xt4.leT, dcm])) | ((refine Ext.then1 (by assumption) ?_ ?_); rotate_left; · (intro p hp _; first | assumption | exact List.mem_cons_of_mem _ hp | (cases hp; done) | (simp at hp; subst hp; simp))))⟩
    · have dci : decide ((i : Int) < (l.length : Int)) = false := by simp; omega
      have he : i = l.length := by omega
      subst he
      rw [List.take_length] at hmay hh
      have dnl := hold_len hh
      by_cases hb : 4096 < (obsB l).length
      · have dcb : decide (4096 < ((obsB l).length : Int)) = true := by simp; omega
        repeat (first | (with_reducible refine AW.seq ?_) | (with_reducible refine AW.block ?_) | (with_reducible refine AW.skip ?_) | (with_reducible refine AW.ret ?_) | (with_reducible refine AW.exit ?_) | (with_reducible refine AW.reg hT ?_) | ((with_reducible refine AW.cond_true ?_ ?_); · rfl) | ((with_reducible refine AW.cond_false ?_ ?_); · rfl) | simp (maxDischargeDepth := 12) only [push_cast, appendX, reduceIte, reduceCtorEq, Nat.reduceSub, Nat.reduceAdd, Nat.reduceMul, Nat.reduceLT, Nat.reduceLeDiff, Nat.reduceEqDiff, Nat.reduceBEq, Int.reduceToNat, Int.reduceLT, Int.reduceLE, Int.reduceEq, Int.reduceNeg, Try.results12, dcml, dc1, xt3.2, xt3.ltT, xt3.leT, dci, ↓dnl, dcb])
        have : encO l = ([], 3) := by rw [encO, if_neg h32, if_pos hmay, if_pos hb]
        exact ⟨_, by rw [this], by rw [this]; exact Hold.nil _ _, by simp [tOf], xt3⟩
      · have dcb : decide (4096 < ((obsB l).length : Int)) = false := by simp; omega
        have dncl := hh.cells
        have dnlf := hh.leaf
        repeat (first | (with_reducible refine AW.seq ?_) | (with_reducible refine AW.block ?_) | (with_reducible refine AW.skip ?_) | (with_reducible refine AW.ret ?_) | (with_reducible refine AW.exit ?_) | (with_reducible refine AW.reg hT ?_) | ((with_reducible refine AW.cond_true ?_ ?_); · rfl) | ((with_reducible refine AW.cond_false ?_ ?_); · rfl) | simp (maxDischargeDepth := 12) only [push_cast, appendX, reduceIte, reduceCtorEq, Nat.reduceSub, Nat.reduceAdd, Nat.reduceMul, Nat.reduceLT, Nat.reduceLeDiff, Nat.reduceEqDiff, Nat.reduceBEq, Int.reduceToNat, Int.reduceLT, Int.reduceLE, Int.reduceEq, Int.reduceNeg, Try.results12, dcml, dc1, xt3.2, xt3.ltT, xt3.leT, dci, ↓dnl, dcb, ↓dncl, ↓dnlf])
        have : encO l = (obsB l, 0) := by rw [encO, if_neg h32, if_pos hmay, if_neg hb]
        exact ⟨d, by rw [this], by rw [this]; exact hh, hnew, xt3⟩
end Go.Proofs.Ythfdmcmjlkinaaa.Cm
