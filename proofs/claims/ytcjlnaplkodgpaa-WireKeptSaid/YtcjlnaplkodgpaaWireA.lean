/- Package wire's All. -/
import Derived.Test.YtcjlnaplkodgpaaWire9
namespace Go.Proofs.Ytcjlnaplkodgpaa.Cm
open Go.RowKit
set_option linter.unusedVariables false
set_option linter.unusedSimpArgs false
set_option maxRecDepth 20000
set_option maxHeartbeats 8000000
def wallI (l : List Nt) (p q : Nat) (d : DV) (σ0 : Heap) (m : Nat) (ts : List DV) (σ : Heap) : Prop := ∃ i full, m = l.length + 1 - i ∧ i ≤ l.length ∧ σ.get q = some ⟨full, 31, true⟩ ∧ full.length = l.length ∧ (∀ el ∈ full, el.length = 4) ∧ full.take i = (l.take i).map eN ∧ Ext [] σ0 σ ∧ TellsL ts (.any :: .any :: .any :: .sl q 0 l.length l.length :: .any :: .any :: .any :: .any :: .any :: .any :: .any :: .any :: .any :: .any :: .any :: .any :: .any :: .any :: d :: .sc (.int .i64 l.length) :: .sc (.int .i64 i) :: .any :: .any :: .any :: .any :: .any :: .any :: .any :: .any :: .any :: .any :: .any :: [])
theorem wall_ok (σ : Heap) {fp : List Nat} {p : Nat} {w : Wi} (hw : Wire σ fp p w) (hk : w.Ok) : ACalls Try.prog 22 [.ptr p 0 0 1] σ (fun x σ' => x = .imm (w.l.map eN) ∧ Ext [] σ σ') := by
  obtain ⟨d, rfl, hp, hh⟩ := hw
  have hlen := tN σ hh
  have hroom : decide (0 < w.room) = true := by simpa using hk.room
  refine ACalls.toImmH (e := 31) ?_
  have hb : w.l.length * 49 ≤ 140737488355328 := by have := hk.len; omega
  have a1 : ((0 : Int) ≤ (w.l.length : Int)) = True := by simp
  refine ACalls.code hT Try.func22 rfl ?_
  simp only [Try.ntmps22, List.length_cons, List.length_nil, Nat.reduceSub, Nat.reduceAdd, List.replicate, List.cons_append, List.nil_append]
  repeat (first | (with_reducible refine AW.seq ?_) | (with_reducible refine AW.block ?_) | (with_reducible refine AW.skip ?_) | (with_reducible refine AW.ret ?_) | (with_reducible refine AW.exit ?_) | (with_reducible refine AW.reg hT ?_) | ((with_reducible refine AW.cond_true ?_ ?_); · rfl) | ((with_reducible refine AW.cond_false ?_ ?_); · rfl) | simp (maxSteps := 3000000) (maxDischargeDepth := 12) only [push_cast,appendX,reduceIte,reduceCtorEq,Nat.reduceSub,Nat.reduceAdd,Nat.reduceMul,Nat.reduceLT,Nat.reduceLeDiff,Nat.reduceEqDiff,Nat.reduceBEq,Int.reduceToNat,Int.reduceLT,Int.reduceLE,Int.reduceEq,Int.reduceNeg,Try.results22])
  refine AOpsL.call (first := []) (cap := []) hT rfl rfl rfl fn23 rfl (ACalls.mono (good_ok (room := w.room) (lost := w.lost) (d := d) _ (by simp (maxSteps := 3000000) (maxDischargeDepth := 12) only [push_cast, appendX, Nat.reduceAdd, Nat.reduceEqDiff, Nat.reduceLT, Nat.reduceLeDiff, reduceIte, reduceCtorEq, hp, Heap.lt hp])) ?_)
  rintro y σ' ⟨rfl, rfl⟩
  rw [hroom]
  repeat (first | (with_reducible refine AW.seq ?_) | (with_reducible refine AW.block ?_) | (with_reducible refine AW.skip ?_) | (with_reducible refine AW.ret ?_) | (with_reducible refine AW.exit ?_) | (with_reducible refine AW.reg hT ?_) | ((with_reducible refine AW.cond_true ?_ ?_); · rfl) | ((with_reducible refine AW.cond_false ?_ ?_); · rfl) | simp (maxSteps := 3000000) (maxDischargeDepth := 12) only [push_cast,appendX,reduceIte,reduceCtorEq,Nat.reduceSub,Nat.reduceAdd,Nat.reduceMul,Nat.reduceLT,Nat.reduceLeDiff,Nat.reduceEqDiff,Nat.reduceBEq,Int.reduceToNat,Int.reduceLT,Int.reduceLE,Int.reduceEq,Int.reduceNeg,Try.results22,hp,Heap.lt hp,WObj,↓hlen,hb,a1])
  refine AW.loop (wallI w.l p σ'.n d σ') (m := w.l.length + 1) ⟨0, _, rfl, Nat.zero_le _, Heap.get_push, by simp, by intro el hel; rw [List.eq_of_mem_replicate hel]; rfl, rfl, (Ext.refl _ _).push _, by (simp only [push_cast, TellsL, tells_any, tells_refl])⟩ ?_
  rintro m ts σ3 ⟨i, full, rfl, hil, hq, hfl, hf4, hft, hext, hts⟩
  refine AW.told hts ?_
  clear hts
  by_cases hlt : i < w.l.length
  · have d1 : decide ((i : Int) < (w.l.length : Int)) = true := by simp; omega
    have hh3 := hh.frame hext (by simp)
    obtain ⟨t, fl2, hd, hg, hel⟩ := hh3.at_ (i := i) (by simpa using hlt)
    obtain ⟨m2, hm2⟩ : ∃ m2, fl2.length = m2 := ⟨_, rfl⟩
    rw [hm2, List.length_map] at hd
    obtain ⟨x, hx⟩ : ∃ x, x = w.l[i] := ⟨_, rfl⟩
    have hel' : fl2[i]? = some (eN x) := by rw [hel, hx]; simp
    rw [eN_eq] at hel'
    have a2 : ((0 : Int) ≤ (i : Int)) = True := by simp
    have a3 : ((i : Int) < (w.l.length : Int)) = True := by simp; omega
    have hwr : IntKind.i64.wrap ((i : Int) + 1) = (i : Int) + 1 := wrap_i64 (by omega) (by omega)
    have hxb : x.f3.length ≤ 8192 := hk.bytes x (by rw [hx]; exact List.getElem_mem _)
    have hif : i < full.length := by omega
    have hfe : full[i]? = some full[i] := List.getElem?_eq_getElem hif
    have hf44 : full[i].length = 4 := hf4 _ (List.getElem_mem _)
    obtain ⟨el, he⟩ : ∃ el, el = full[i] := ⟨_, rfl⟩
    rw [← he] at hfe hf44
    have hdr : el.drop 4 = [] := List.drop_eq_nil_of_le (by omega)
    have hic : (((i + 1 : Nat)) : Int) = (i : Int) + 1 := by omega
    rw [hd]
    repeat (first | (with_reducible refine AW.seq ?_) | (with_reducible refine AW.block ?_) | (with_reducible refine AW.skip ?_) | (with_reducible refine AW.ret ?_) | (with_reducible refine AW.exit ?_) | (with_reducible refine AW.reg hT ?_) | ((with_reducible refine AW.cond_true ?_ ?_); · rfl) | ((with_reducible refine AW.cond_false ?_ ?_); · rfl) | simp (maxSteps := 3000000) (maxDischargeDepth := 12) only [push_cast,appendX,reduceIte,reduceCtorEq,Nat.reduceSub,Nat.reduceAdd,Nat.reduceMul,Nat.reduceLT,Nat.reduceLeDiff,Nat.reduceEqDiff,Nat.reduceBEq,Int.reduceToNat,Int.reduceLT,Int.reduceLE,Int.reduceEq,Int.reduceNeg,Try.results22,d1,hg,Heap.lt hg,hm2,hel',a2,a3])
    refine AOpsL.call (first := []) (cap := []) hT rfl rfl rfl fn25 rfl (ACalls.mono (own_ok _ x.f0 x.f1 x.f2 x.f3 (by omega)) ?_)
    rintro y σ4 ⟨rfl, hx4⟩
    repeat (first | (with_reducible refine AW.seq ?_) | (with_reducible refine AW.block ?_) | (with_reducible refine AW.skip ?_) | (with_reducible refine AW.ret ?_) | (with_reducible refine AW.exit ?_) | (with_reducible refine AW.reg hT ?_) | ((with_reducible refine AW.cond_true ?_ ?_); · rfl) | ((with_reducible refine AW.cond_false ?_ ?_); · rfl) | simp (maxSteps := 3000000) (maxDischargeDepth := 12) only [push_cast,appendX,reduceIte,reduceCtorEq,Nat.reduceSub,Nat.reduceAdd,Nat.reduceMul,Nat.reduceLT,Nat.reduceLeDiff,Nat.reduceEqDiff,Nat.reduceBEq,Int.reduceToNat,Int.reduceLT,Int.reduceLE,Int.reduceEq,Int.reduceNeg,Try.results22,d1,hg,Heap.lt hg,hq,Heap.lt hq,hx4.2,hx4.ltT,hx4.leT,hm2,hfl,hel',a2,a3,hwr,hfe,hf44,hdr])
    refine ⟨w.l.length + 1 - (i + 1), by omega, i + 1, full.set i (eN x), rfl, hlt, ?_, by simp [hfl], ?_, ?_, ?_, ?_⟩
    · simp (maxSteps := 3000000) (maxDischargeDepth := 12) only [push_cast, appendX, Nat.reduceAdd, Nat.reduceEqDiff, Nat.reduceLT, Nat.reduceLeDiff, reduceIte, reduceCtorEq, hq, Heap.lt hq, hx4.2, hx4.ltT, hx4.leT]
      rfl
    · intro e1 h1
      rcases List.mem_or_eq_of_mem_set h1 with h2 | rfl
      · exact hf4 e1 h2
      · rfl
    · rw [List.take_add_one, List.take_add_one, List.map_append, List.getElem?_eq_getElem hlt, ← hx, List.getElem?_set_self hif, List.take_set_of_le (Nat.le_refl _), hft]
      rfl
    · repeat (first | exact Ext.refl _ _ | assumption | refine Ext.push ?_ _ | ((refine Ext.set ?_ ?_ _); rotate_left; · (simp (maxSteps := 3000000) (maxDischargeDepth := 12) only [push_cast, appendX, Nat.reduceAdd, Nat.reduceEqDiff, Nat.reduceLT, Nat.reduceLeDiff, reduceIte, reduceCtorEq, hext.2, hext.ltT, hext.leT, hx4.2, hx4.ltT, hx4.leT])) | ((refine Ext.then1 (by assumption) ?_ ?_); rotate_left; · (intro p hp _; first | assumption | exact List.mem_cons_of_mem _ hp | (cases hp; done) | (simp at hp; subst hp; simp))))
    · (simp only [push_cast, TellsL, tells_any, tells_refl, hic, hd])
  · have d1 : decide ((i : Int) < (w.l.length : Int)) = false := by simp; omega
    repeat (first | (with_reducible refine AW.seq ?_) | (with_reducible refine AW.block ?_) | (with_reducible refine AW.skip ?_) | (with_reducible refine AW.ret ?_) | (with_reducible refine AW.exit ?_) | (with_reducible refine AW.reg hT ?_) | ((with_reducible refine AW.cond_true ?_ ?_); · rfl) | ((with_reducible refine AW.cond_false ?_ ?_); · rfl) | simp (maxSteps := 3000000) (maxDischargeDepth := 12) only [push_cast,appendX,reduceIte,reduceCtorEq,Nat.reduceSub,Nat.reduceAdd,Nat.reduceMul,Nat.reduceLT,Nat.reduceLeDiff,Nat.reduceEqDiff,Nat.reduceBEq,Int.reduceToNat,Int.reduceLT,Int.reduceLE,Int.reduceEq,Int.reduceNeg,Try.results22,d1])
    have he : i = w.l.length := by omega
    subst he
    rw [List.take_length, List.take_of_length_le (by omega)] at hft
    subst hft
    refine ⟨?_, ?_, hext⟩
    · have := Hold.row hq
      simpa using this
    · simp [tOf]
end Go.Proofs.Ytcjlnaplkodgpaa.Cm
