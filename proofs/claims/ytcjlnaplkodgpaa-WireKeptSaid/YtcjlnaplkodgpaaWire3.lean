/- Contracts of package wire: slices.Delete, Take, Twice. -/
import Derived.Test.YtcjlnaplkodgpaaWire2
namespace Go.Proofs.Ytcjlnaplkodgpaa.Cm
open Go.RowKit
set_option linter.unusedVariables false
set_option linter.unusedSimpArgs false
set_option maxRecDepth 20000
set_option maxHeartbeats 4000000
theorem delete_ok (σ : Heap) {t n m : Nat} {full : List (List DV)} (i : Nat) (hg : σ.get t = some ⟨full, 31, true⟩) (hm : full.length = m) (hnm : n ≤ m) (hi : i < n) (h4 : ∀ el ∈ full.take n, el.length = 4) (hb : n * 49 ≤ 140737488355328) :
    ACalls Try.prog 27 [.sl t 0 n m, .sc (.int .i64 i), .sc (.int .i64 ((i : Int) + 1))] σ (fun x σ' => x = .sl t 0 (n - 1) m ∧ ∃ full', σ'.get t = some ⟨full', 31, true⟩ ∧ full'.length = m ∧ full'.take (n - 1) = (full.take n).eraseIdx i ∧ Ext [t] σ σ') := by
  have hlt := Heap.lt hg
  have a1 : ((0 : Int) ≤ (i : Int)) = True := by simp
  have a2 : ((i : Int) ≤ (i : Int) + 1) = True := by simp; omega
  have a3 : ((i : Int) + 1 ≤ (n : Int)) = True := by simp; omega
  have a4 : ((i : Int) == (i : Int) + 1) = false := by simp; omega
  have a5 : ((i : Int) ≤ (n : Int)) = True := by simp; omega
  have a6 : ((i : Int) + 1).toNat = i + 1 := by omega
  have a7 : ((n : Int) - ((i : Int) + 1)).toNat = n - (i + 1) := by omega
  have a8 : ((0 : Int) ≤ (i : Int) + 1) = True := by simp; omega
  have a9 : ((n : Int) ≤ (n : Int)) = True := by simp
  refine ACalls.code hT Try.func27 rfl ?_
  simp only [Try.ntmps27, List.length_cons, List.length_nil, Nat.reduceSub, Nat.reduceAdd, List.replicate, List.cons_append, List.nil_append]
  repeat (first | (with_reducible refine AW.seq ?_) | (with_reducible refine AW.block ?_) | (with_reducible refine AW.skip ?_) | (with_reducible refine AW.ret ?_) | (with_reducible refine AW.exit ?_) | (with_reducible refine AW.reg hT ?_) | ((with_reducible show AW _ (.region 5 _ _) _ _ _); (with_reducible refine AW.drawn (id := 5) hT [0,1,2,3,4,5,6,7] [[],[],[0,1],[],[],[3,4],[0,1,2,3,4,5],[0,1,2,3,4,5,6]] mix (by kernel_rfl) ?_)) | ((with_reducible show DLeft _ _ _ _ (_ :: _) _ _ _ _); (with_reducible apply DLeft.step hT); (case hoi => ((simp only [List.getElem?_toArray,List.getElem?_cons_zero,List.getElem?_cons_succ]); with_reducible rfl)); (case hg => rfl); (case hk => rfl); (case hr => ((try simp (maxSteps := 3000000) (maxDischargeDepth := 12) only [push_cast,reduceIte,reduceCtorEq,Nat.reduceSub,Nat.reduceAdd,Nat.reduceMul,Nat.reduceLT,Nat.reduceLeDiff,Nat.reduceEqDiff,Nat.reduceBEq,Int.reduceToNat,Int.reduceLT,Int.reduceLE,Int.reduceEq,Int.reduceNeg,Try.results27,hg,Heap.lt hg,hm,a1,a2,a3,a4,a5,a6,a7,a8,a9]); with_reducible rfl))) | ((with_reducible refine AW.cond_true ?_ ?_); · rfl) | ((with_reducible refine AW.cond_false ?_ ?_); · rfl) | simp (maxSteps := 3000000) (maxDischargeDepth := 12) only [push_cast,reduceIte,reduceCtorEq,Nat.reduceSub,Nat.reduceAdd,Nat.reduceMul,Nat.reduceLT,Nat.reduceLeDiff,Nat.reduceEqDiff,Nat.reduceBEq,Int.reduceToNat,Int.reduceLT,Int.reduceLE,Int.reduceEq,Int.reduceNeg,Try.results27,hg,Heap.lt hg,hm,a1,a2,a3,a4,a5,a6,a7,a8,a9])
  have hq : ∃ full1, full1.length = m ∧ full1.take (n - 1) = (full.take n).eraseIdx i ∧ ∃ σ1, appendX T σ 52 (.sl t 0 i m) (.sl t (i + 1) (n - (i + 1)) m) = some (.sl t 0 (n - 1) m, σ1) ∧ σ1.get t = some ⟨full1, 31, true⟩ ∧ Ext [t] σ σ1 := by
    have hsl : sliceD σ (.sl t (i + 1) (n - (i + 1)) m) = some ((full.drop (i + 1)).take (n - (i + 1))) := by
      simp [sliceD, getO, hg, hm]; omega
    have hlen : ((full.drop (i + 1)).take (n - (i + 1))).length = n - (i + 1) := by simp; omega
    have hall : (((full.drop (i + 1)).take (n - (i + 1))).all fun el => el.length == 4) = true := by
      rw [List.all_eq_true]; intro el hel; rw [← List.drop_take] at hel; simpa using h4 el (List.mem_of_mem_drop hel)
    have hp : (0 : Nat) < 4 := by decide
    have hmi : ¬ i = m := by omega
    have er : (full.take n).eraseIdx i = full.take i ++ (full.drop (i + 1)).take (n - (i + 1)) := by
      rw [List.eraseIdx_eq_take_drop_succ, List.take_take, Nat.min_eq_left (by omega), List.drop_take]
    obtain ⟨xs, hxs⟩ : ∃ xs, xs = (full.drop (i + 1)).take (n - (i + 1)) := ⟨_, rfl⟩
    rw [← hxs] at hsl hlen hall er
    by_cases hn : n - (i + 1) = 0
    · have hni : n - 1 = i := by omega
      have hx0 : xs = [] := List.eq_nil_of_length_eq_zero (by omega)
      subst hx0
      refine ⟨full, hm, by rw [er, hni]; simp, σ, ?_, hg, Ext.refl _ _⟩
      rw [hni]
      simp (maxSteps := 3000000) (maxDischargeDepth := 12) only [push_cast,appendX,reduceIte,reduceCtorEq,Nat.reduceSub,Nat.reduceAdd,Nat.reduceMul,Nat.reduceLT,Nat.reduceLeDiff,Nat.reduceEqDiff,Nat.reduceBEq,Int.reduceToNat,Int.reduceLT,Int.reduceLE,Int.reduceEq,Int.reduceNeg,hg,Heap.lt hg,hm,↓hsl,hmi]
    · have hn' : ¬ xs.length = 0 := by omega
      have hn1 : 0 < xs.length := by omega
      have him : i < m := by omega
      have hbb : (n - 1) * 49 ≤ 140737488355328 := by omega
      have hl1 : i + xs.length = n - 1 := by omega
      have hl2 : n - 1 + (m - (n - 1)) = m := by omega
      refine ⟨full.take i ++ xs ++ full.drop (i + xs.length), by simp; omega, ?_, σ.set t ⟨full.take i ++ xs ++ full.drop (i + xs.length), 31, true⟩, ?_, Heap.get_set hlt, (Ext.refl _ _).set (.inr (by simp)) _⟩
      · rw [er, List.take_append_of_le_length (by simp; omega), List.take_of_length_le (by simp; omega)]
      · simp (maxSteps := 3000000) (maxDischargeDepth := 12) only [push_cast,appendX,reduceIte,reduceCtorEq,Nat.reduceSub,Nat.reduceAdd,Nat.reduceMul,Nat.reduceLT,Nat.reduceLeDiff,Nat.reduceEqDiff,Nat.reduceBEq,Int.reduceToNat,Int.reduceLT,Int.reduceLE,Int.reduceEq,Int.reduceNeg,hg,Heap.lt hg,hm,↓hsl,hmi,hall,hn',hn1,him,hbb,hl1,hl2]
  obtain ⟨full1, hm1, hf1, σ1, happ, hg1, hx1⟩ := hq
  have b1 : ((n - 1 : Nat) : Int) ≤ (n : Int) := by omega
  have b2 : ((n : Int) - ((n - 1 : Nat) : Int)).toNat = 1 := by omega
  have b3 : ((n : Int) ≤ ((n - 1 : Nat) : Int)) = False := by simp; omega
  have b4 : ((n : Int) ≤ (m : Int)) = True := by simp; omega
  have b5 : (0 : Int) ≤ ((n - 1 : Nat) : Int) := by omega
  have b6 : n - 1 + 1 ≤ m := by omega
  repeat (first | (with_reducible refine AW.seq ?_) | (with_reducible refine AW.block ?_) | (with_reducible refine AW.skip ?_) | (with_reducible refine AW.ret ?_) | (with_reducible refine AW.exit ?_) | (with_reducible refine AW.reg hT ?_) | ((with_reducible show AW _ (.region 5 _ _) _ _ _); (with_reducible refine AW.drawn (id := 5) hT [0,1,2,3,4,5,6,7] [[],[],[0,1],[],[],[3,4],[0,1,2,3,4,5],[0,1,2,3,4,5,6]] mix (by kernel_rfl) ?_)) | ((with_reducible show DLeft _ _ _ _ (_ :: _) _ _ _ _); (with_reducible apply DLeft.step hT); (case hoi => ((simp only [List.getElem?_toArray,List.getElem?_cons_zero,List.getElem?_cons_succ]); with_reducible rfl)); (case hg => rfl); (case hk => rfl); (case hr => ((try simp (maxSteps := 3000000) (maxDischargeDepth := 12) only [push_cast,appendX,reduceIte,reduceCtorEq,Nat.reduceSub,Nat.reduceAdd,Nat.reduceMul,Nat.reduceLT,Nat.reduceLeDiff,Nat.reduceEqDiff,Nat.reduceBEq,Int.reduceToNat,Int.reduceLT,Int.reduceLE,Int.reduceEq,Int.reduceNeg,Try.results27,hg,Heap.lt hg,hg1,Heap.lt hg1,hm,hm1,a1,a2,a3,a4,a5,a6,a7,a8,a9,b1,b2,b3,b4,b5,b6,↓happ]); with_reducible rfl))) | ((with_reducible refine AW.cond_true ?_ ?_); · rfl) | ((with_reducible refine AW.cond_false ?_ ?_); · rfl) | simp (maxSteps := 3000000) (maxDischargeDepth := 12) only [push_cast,appendX,reduceIte,reduceCtorEq,Nat.reduceSub,Nat.reduceAdd,Nat.reduceMul,Nat.reduceLT,Nat.reduceLeDiff,Nat.reduceEqDiff,Nat.reduceBEq,Int.reduceToNat,Int.reduceLT,Int.reduceLE,Int.reduceEq,Int.reduceNeg,Try.results27,hg,Heap.lt hg,hg1,Heap.lt hg1,hm,hm1,a1,a2,a3,a4,a5,a6,a7,a8,a9,b1,b2,b3,b4,b5,b6,↓happ])
  refine ⟨_, rfl, by simp; omega, ?_, ?_⟩
  · rw [List.append_assoc, List.take_append_of_le_length (by simp; omega), List.take_take, Nat.min_self, hf1]
  · repeat (first | exact Ext.refl _ _ | assumption | refine Ext.push ?_ _ | ((refine Ext.set ?_ ?_ _); rotate_left; · (simp (maxSteps := 3000000) (maxDischargeDepth := 12) only [push_cast, appendX, Nat.reduceAdd, Nat.reduceEqDiff, Nat.reduceLT, Nat.reduceLeDiff, reduceIte, reduceCtorEq, hg1, Heap.lt hg1])) | ((refine Ext.then1 (by assumption) ?_ ?_); rotate_left; · (intro p hp _; first | assumption | exact List.mem_cons_of_mem _ hp | (cases hp; done) | (simp at hp; subst hp; simp))))
theorem delete_hold (σ : Heap) {d : DV} {els : List (List DV)} (i : Nat) (hh : Hold σ d 31 els) (hi : i < els.length) (h4 : ∀ el ∈ els, el.length = 4) (hb : els.length * 49 ≤ 140737488355328) :
    ACalls Try.prog 27 [d, .sc (.int .i64 i), .sc (.int .i64 ((i : Int) + 1))] σ (fun x σ' => Hold σ' x 31 (els.eraseIdx i) ∧ tOf x = tOf d ∧ Ext (tOf d) σ σ') := by
  rcases hh with ⟨rfl, rfl⟩ | ⟨t, full, rfl, hg, hle, htk⟩
  · simp at hi
  · refine (delete_ok σ i hg rfl hle hi (by rw [htk]; exact h4) hb).mono ?_
    rintro x σ' ⟨rfl, full', hg', hm', hf', hx⟩
    rw [htk] at hf'
    have hl : (els.eraseIdx i).length = els.length - 1 := by rw [List.length_eraseIdx, if_pos hi]
    refine ⟨.inr ⟨t, full', by rw [hl, hm'], hg', by rw [hl, hm']; omega, by rw [hl, hf']⟩, rfl, hx⟩
def zN : Nt := ⟨0, 0, 0, []⟩
def Wi.take (w : Wi) (i : Int) : Wi × Nt × Int := if 0 ≤ i ∧ i < (w.l.length : Int) then ({ w with l := w.l.eraseIdx i.toNat }, w.l.getD i.toNat zN, 0) else (w, zN, 8)
def Wi.twice (w : Wi) (i : Int) : Wi × Int := if 0 ≤ i ∧ i < (w.l.length : Int) then (if w.room ≤ (w.l.length : Int) then (w, 7) else ({ w with l := w.l ++ [w.l.getD i.toNat zN] }, 0)) else (w, 8)
theorem has_ok' (σ : Heap) {p : Nat} {room lost : Int} {d : DV} {l : List Nt} (i : Int) (hp : σ.get p = some (WObj room d lost)) (hh : Hold σ d 31 (l.map eN)) : ACalls Try.prog 26 [.ptr p 0 0 1, .sc (.int .i64 i)] σ (fun x σ' => x = .sc (.bool (decide (0 ≤ i ∧ i < (l.length : Int)))) ∧ σ' = σ) := has_ok σ i ⟨d, hp, hh⟩
/-- A wire's note as cells. -/
theorem eN_eq (x : Nt) : eN x = [.sc (.int .i64 x.f0), .sc (.int .i64 x.f1), .sc (.int .i64 x.f2), .imm (bytesD x.f3)] := rfl
theorem take_ok (σ : Heap) {fp : List Nat} {p : Nat} {w : Wi} (i : Int) (hi64 : True) (hw : Wire σ fp p w) (hk : w.Ok) : ACalls Try.prog 11 [.ptr p 0 0 1, .sc (.int .i64 i)] σ (fun y σ' => y = .tup [.agg (eN (w.take i).2.1), .sc (.int .i64 (w.take i).2.2)] ∧ ∃ fp', Wire σ' fp' p (w.take i).1 ∧ Grew σ σ' fp fp') := by
  obtain ⟨d, rfl, hp, hh⟩ := hw
  have hlt := Heap.lt hp
  have hroom : decide (0 < w.room) = true := by simpa using hk.room
  have hne := hh.ne hp (by simp [WObj])
  refine ACalls.tells ?_
  refine ACalls.code hT Try.func11 rfl ?_
  simp only [Try.ntmps11, List.length_cons, List.length_nil, Nat.reduceSub, Nat.reduceAdd, List.replicate, List.cons_append, List.nil_append]
  repeat (first | (with_reducible refine AW.seq ?_) | (with_reducible refine AW.block ?_) | (with_reducible refine AW.skip ?_) | (with_reducible refine AW.ret ?_) | (with_reducible refine AW.exit ?_) | (with_reducible refine AW.reg hT ?_) | ((with_reducible refine AW.cond_true ?_ ?_); · rfl) | ((with_reducible refine AW.cond_false ?_ ?_); · rfl) | simp (maxSteps := 3000000) (maxDischargeDepth := 12) only [push_cast,appendX,reduceIte,reduceCtorEq,Nat.reduceSub,Nat.reduceAdd,Nat.reduceMul,Nat.reduceLT,Nat.reduceLeDiff,Nat.reduceEqDiff,Nat.reduceBEq,Int.reduceToNat,Int.reduceLT,Int.reduceLE,Int.reduceEq,Int.reduceNeg,Try.results11])
  refine AOpsL.call (first := []) (cap := []) hT rfl rfl rfl fn23 rfl (ACalls.mono (good_ok (room := w.room) (lost := w.lost) (d := d) _ (by simp (maxSteps := 3000000) (maxDischargeDepth := 12) only [push_cast, appendX, Nat.reduceAdd, Nat.reduceEqDiff, Nat.reduceLT, Nat.reduceLeDiff, reduceIte, reduceCtorEq, hp, Heap.lt hp])) ?_)
  rintro y σ' ⟨rfl, rfl⟩
  rw [hroom]
  repeat (first | (with_reducible refine AW.seq ?_) | (with_reducible refine AW.block ?_) | (with_reducible refine AW.skip ?_) | (with_reducible refine AW.ret ?_) | (with_reducible refine AW.exit ?_) | (with_reducible refine AW.reg hT ?_) | ((with_reducible refine AW.cond_true ?_ ?_); · rfl) | ((with_reducible refine AW.cond_false ?_ ?_); · rfl) | simp (maxSteps := 3000000) (maxDischargeDepth := 12) only [push_cast,appendX,reduceIte,reduceCtorEq,Nat.reduceSub,Nat.reduceAdd,Nat.reduceMul,Nat.reduceLT,Nat.reduceLeDiff,Nat.reduceEqDiff,Nat.reduceBEq,Int.reduceToNat,Int.reduceLT,Int.reduceLE,Int.reduceEq,Int.reduceNeg,Try.results11])
  refine AOpsL.call (first := []) (cap := []) hT rfl rfl rfl fn26 rfl (ACalls.mono (has_ok' (room := w.room) (lost := w.lost) (d := d) (l := w.l) _ i (by simp (maxSteps := 3000000) (maxDischargeDepth := 12) only [push_cast, appendX, Nat.reduceAdd, Nat.reduceEqDiff, Nat.reduceLT, Nat.reduceLeDiff, reduceIte, reduceCtorEq, hp, Heap.lt hp]) (hh.frame (X := []) (by repeat (first | exact Ext.refl _ _ | assumption | refine Ext.push ?_ _ | ((refine Ext.set ?_ ?_ _); rotate_left; · (simp (maxSteps := 3000000) (maxDischargeDepth := 12) only [push_cast, appendX, Nat.reduceAdd, Nat.reduceEqDiff, Nat.reduceLT, Nat.reduceLeDiff, reduceIte, reduceCtorEq])) | ((refine Ext.then1 (by assumption) ?_ ?_); rotate_left; · (intro p hp _; first | assumption | exact List.mem_cons_of_mem _ hp | (cases hp; done) | (simp at hp; subst hp; simp))))) (by simp))) ?_)
  rintro y σ' ⟨rfl, rfl⟩
  by_cases hi : 0 ≤ i ∧ i < (w.l.length : Int)
  · have hi' : decide (0 ≤ i ∧ i < (w.l.length : Int)) = true := by simpa using hi
    rw [hi']
    obtain ⟨k, rfl⟩ := Int.eq_ofNat_of_zero_le hi.1
    have hkl : k < w.l.length := by omega
    obtain ⟨t, full, hd, hg, hel⟩ := hh.at_ (i := k) (by simpa using hkl)
    obtain ⟨n, hn⟩ : ∃ n, n = (w.l.map eN).length := ⟨_, rfl⟩
    obtain ⟨m, hm⟩ : ∃ m, full.length = m := ⟨_, rfl⟩
    rw [← hn, hm] at hd
    obtain ⟨x, hx⟩ : ∃ x, x = w.l[k] := ⟨_, rfl⟩
    have hel' : full[k]? = some (eN x) := by rw [hel, hx]; simp
    have a1 : ((0 : Int) ≤ (k : Int)) = True := by simp
    have a2 : ((k : Int) < (n : Int)) = True := by simp [hn]; omega
    have a3 : IntKind.i64.wrap ((k : Int) + 1) = (k : Int) + 1 := wrap_i64 (by omega) (by have := hk.len; omega)
    have htn : t ≠ p := by intro e; subst e; rw [hg] at hp; simp [WObj] at hp
    have hpt : (p = t) = False := by simpa using Ne.symm htn
    have htp : (t = p) = False := by simpa using htn
    have hxb : x.f3.length ≤ 8192 := hk.bytes x (by rw [hx]; exact List.getElem_mem _)
    rw [eN_eq] at hel'
    rw [hd] at hp
    repeat (first | (with_reducible refine AW.seq ?_) | (with_reducible refine AW.block ?_) | (with_reducible refine AW.skip ?_) | (with_reducible refine AW.ret ?_) | (with_reducible refine AW.exit ?_) | (with_reducible refine AW.reg hT ?_) | ((with_reducible refine AW.cond_true ?_ ?_); · rfl) | ((with_reducible refine AW.cond_false ?_ ?_); · rfl) | simp (maxSteps := 3000000) (maxDischargeDepth := 12) only [push_cast,appendX,reduceIte,reduceCtorEq,Nat.reduceSub,Nat.reduceAdd,Nat.reduceMul,Nat.reduceLT,Nat.reduceLeDiff,Nat.reduceEqDiff,Nat.reduceBEq,Int.reduceToNat,Int.reduceLT,Int.reduceLE,Int.reduceEq,Int.reduceNeg,Try.results11,hp,Heap.lt hp,hg,Heap.lt hg,WObj,hm,hel',a1,a2,a3,hpt,htp])
    refine AOpsL.call (first := []) (cap := []) hT rfl rfl rfl fn27 rfl (ACalls.mono (delete_hold _ (d := .sl t 0 n m) (els := w.l.map eN) k (hd ▸ hh.frame (X := []) (by repeat (first | exact Ext.refl _ _ | assumption | refine Ext.push ?_ _ | ((refine Ext.set ?_ ?_ _); rotate_left; · (simp (maxSteps := 3000000) (maxDischargeDepth := 12) only [push_cast, appendX, Nat.reduceAdd, Nat.reduceEqDiff, Nat.reduceLT, Nat.reduceLeDiff, reduceIte, reduceCtorEq])) | ((refine Ext.then1 (by assumption) ?_ ?_); rotate_left; · (intro p hp _; first | assumption | exact List.mem_cons_of_mem _ hp | (cases hp; done) | (simp at hp; subst hp; simp))))) (by simp)) (by simpa using hkl) (by simp [eN_eq]) (by have := hk.len; simp; omega)) ?_)
    rintro y σ1 ⟨hh1, ht1, hx1⟩
    have hcl := hh1.cells
    have hlf := hh1.leaf
    simp only [tOf] at hx1
    repeat (first | (with_reducible refine AW.seq ?_) | (with_reducible refine AW.block ?_) | (with_reducible refine AW.skip ?_) | (with_reducible refine AW.ret ?_) | (with_reducible refine AW.exit ?_) | (with_reducible refine AW.reg hT ?_) | ((with_reducible refine AW.cond_true ?_ ?_); · rfl) | ((with_reducible refine AW.cond_false ?_ ?_); · rfl) | simp (maxSteps := 3000000) (maxDischargeDepth := 12) only [push_cast,appendX,reduceIte,reduceCtorEq,Nat.reduceSub,Nat.reduceAdd,Nat.reduceMul,Nat.reduceLT,Nat.reduceLeDiff,Nat.reduceEqDiff,Nat.reduceBEq,Int.reduceToNat,Int.reduceLT,Int.reduceLE,Int.reduceEq,Int.reduceNeg,Try.results11,hp,Heap.lt hp,hg,Heap.lt hg,hx1.2,hx1.ltT,hx1.leT,WObj,hpt,htp,↓hcl,↓hlf])
    refine AOpsL.call (first := []) (cap := []) hT rfl rfl rfl fn25 rfl (ACalls.mono (own_ok _ x.f0 x.f1 x.f2 x.f3 (by omega)) ?_)
    rintro y σ2 ⟨rfl, hx2⟩
    repeat (first | (with_reducible refine AW.seq ?_) | (with_reducible refine AW.block ?_) | (with_reducible refine AW.skip ?_) | (with_reducible refine AW.ret ?_) | (with_reducible refine AW.exit ?_) | (with_reducible refine AW.reg hT ?_) | ((with_reducible refine AW.cond_true ?_ ?_); · rfl) | ((with_reducible refine AW.cond_false ?_ ?_); · rfl) | simp (maxSteps := 3000000) (maxDischargeDepth := 12) only [push_cast,appendX,reduceIte,reduceCtorEq,Nat.reduceSub,Nat.reduceAdd,Nat.reduceMul,Nat.reduceLT,Nat.reduceLeDiff,Nat.reduceEqDiff,Nat.reduceBEq,Int.reduceToNat,Int.reduceLT,Int.reduceLE,Int.reduceEq,Int.reduceNeg,Try.results11,hp,Heap.lt hp,hg,Heap.lt hg,hx1.2,hx1.ltT,hx1.leT,hx2.2,hx2.ltT,hx2.leT,WObj,hpt,htp])
    have hs : w.take (k : Int) = ({ w with l := w.l.eraseIdx k }, x, 0) := by
      simp [Wi.take, hkl, hx]
    rw [hs]
    have htn' := Heap.lt hg
    have hyt : ∀ q ∈ tOf y, q ∉ [p, σ.n] := by
      rw [ht1]; simp [tOf, htn]; omega
    refine ⟨_, Tells.refl _, rfl, p :: tOf y, ⟨y, rfl, ?_, ?_⟩, ?_, fun q hq hqm => ?_⟩
    · simp (maxSteps := 3000000) (maxDischargeDepth := 12) only [push_cast, appendX, Nat.reduceAdd, Nat.reduceEqDiff, Nat.reduceLT, Nat.reduceLeDiff, reduceIte, reduceCtorEq, hp, Heap.lt hp, hx1.2, hx1.ltT, hx1.leT, hx2.2, hx2.ltT, hx2.leT, hpt, WObj]
    · show Hold _ y _ ((w.l.eraseIdx k).map eN)
      have hme : (w.l.eraseIdx k).map eN = (w.l.map eN).eraseIdx k := by simp [List.eraseIdx_eq_take_drop_succ, List.map_take, List.map_drop]
      rw [hme]
      refine hh1.frame (X := [p, σ.n]) ?_ hyt
      repeat (first | exact Ext.refl _ _ | assumption | refine Ext.push ?_ _ | ((refine Ext.set ?_ ?_ _); rotate_left; · (simp (maxSteps := 3000000) (maxDischargeDepth := 12) only [push_cast, appendX, Nat.reduceAdd, Nat.reduceEqDiff, Nat.reduceLT, Nat.reduceLeDiff, reduceIte, reduceCtorEq])) | ((refine Ext.then1 (by assumption) ?_ ?_); rotate_left; · (intro p hp _; first | assumption | exact List.mem_cons_of_mem _ hp | (cases hp; done) | (simp at hp; subst hp; simp))))
    · rw [hd]
      simp only [tOf]
      repeat (first | exact Ext.refl _ _ | assumption | refine Ext.push ?_ _ | ((refine Ext.set ?_ ?_ _); rotate_left; · (simp (maxSteps := 3000000) (maxDischargeDepth := 12) only [push_cast, appendX, Nat.reduceAdd, Nat.reduceEqDiff, Nat.reduceLT, Nat.reduceLeDiff, reduceIte, reduceCtorEq])) | ((refine Ext.then1 (by assumption) ?_ ?_); rotate_left; · (intro p hp _; first | assumption | exact List.mem_cons_of_mem _ hp | (cases hp; done) | (simp at hp; subst hp; simp))))
    · rw [hd, ← ht1]; exact hqm
  · have hi' : decide (0 ≤ i ∧ i < (w.l.length : Int)) = false := by simpa using hi
    rw [hi']
    repeat (first | (with_reducible refine AW.seq ?_) | (with_reducible refine AW.block ?_) | (with_reducible refine AW.skip ?_) | (with_reducible refine AW.ret ?_) | (with_reducible refine AW.exit ?_) | (with_reducible refine AW.reg hT ?_) | ((with_reducible refine AW.cond_true ?_ ?_); · rfl) | ((with_reducible refine AW.cond_false ?_ ?_); · rfl) | simp (maxSteps := 3000000) (maxDischargeDepth := 12) only [push_cast,appendX,reduceIte,reduceCtorEq,Nat.reduceSub,Nat.reduceAdd,Nat.reduceMul,Nat.reduceLT,Nat.reduceLeDiff,Nat.reduceEqDiff,Nat.reduceBEq,Int.reduceToNat,Int.reduceLT,Int.reduceLE,Int.reduceEq,Int.reduceNeg,Try.results11,hp,Heap.lt hp])
    have hs : w.take i = (w, zN, 8) := by simp only [Wi.take, if_neg hi]
    rw [hs]
    refine ⟨_, Tells.tup (l' := [.agg (eN zN), _]) ⟨Tells.agg (l' := eN zN) ⟨Tells.refl _, Tells.refl _, Tells.refl _, Tells.nil, trivial⟩, Tells.refl _, trivial⟩, rfl, p :: tOf d, ⟨d, rfl, ?_, ?_⟩, ?_, fun q hq hqm => hqm⟩
    · simp (maxSteps := 3000000) (maxDischargeDepth := 12) only [push_cast, appendX, Nat.reduceAdd, Nat.reduceEqDiff, Nat.reduceLT, Nat.reduceLeDiff, reduceIte, reduceCtorEq, hp, Heap.lt hp]
    · refine hh.frame (X := []) ?_ (by simp)
      repeat (first | exact Ext.refl _ _ | assumption | refine Ext.push ?_ _ | ((refine Ext.set ?_ ?_ _); rotate_left; · (simp (maxSteps := 3000000) (maxDischargeDepth := 12) only [push_cast, appendX, Nat.reduceAdd, Nat.reduceEqDiff, Nat.reduceLT, Nat.reduceLeDiff, reduceIte, reduceCtorEq])) | ((refine Ext.then1 (by assumption) ?_ ?_); rotate_left; · (intro p hp _; first | assumption | exact List.mem_cons_of_mem _ hp | (cases hp; done) | (simp at hp; subst hp; simp))))
    · repeat (first | exact Ext.refl _ _ | assumption | refine Ext.push ?_ _ | ((refine Ext.set ?_ ?_ _); rotate_left; · (simp (maxSteps := 3000000) (maxDischargeDepth := 12) only [push_cast, appendX, Nat.reduceAdd, Nat.reduceEqDiff, Nat.reduceLT, Nat.reduceLeDiff, reduceIte, reduceCtorEq])) | ((refine Ext.then1 (by assumption) ?_ ?_); rotate_left; · (intro p hp _; first | assumption | exact List.mem_cons_of_mem _ hp | (cases hp; done) | (simp at hp; subst hp; simp))))
theorem twice_ok (σ : Heap) {fp : List Nat} {p : Nat} {w : Wi} (i : Int) (hw : Wire σ fp p w) (hk : w.Ok) : ACalls Try.prog 19 [.ptr p 0 0 1, .sc (.int .i64 i)] σ (fun y σ' => y = .sc (.int .i64 (w.twice i).2) ∧ ∃ fp', Wire σ' fp' p (w.twice i).1 ∧ Grew σ σ' fp fp') := by
  obtain ⟨d, rfl, hp, hh⟩ := hw
  have hlt := Heap.lt hp
  have hlen := tN σ hh
  have hroom : decide (0 < w.room) = true := by simpa using hk.room
  have hne := hh.ne hp (by simp [WObj])
  refine ACalls.code hT Try.func19 rfl ?_
  simp only [Try.ntmps19, List.length_cons, List.length_nil, Nat.reduceSub, Nat.reduceAdd, List.replicate, List.cons_append, List.nil_append]
  repeat (first | (with_reducible refine AW.seq ?_) | (with_reducible refine AW.block ?_) | (with_reducible refine AW.skip ?_) | (with_reducible refine AW.ret ?_) | (with_reducible refine AW.exit ?_) | (with_reducible refine AW.reg hT ?_) | ((with_reducible show AW _ (.region 5 _ _) _ _ _); (with_reducible refine AW.drawn (id := 5) hT [0,1,2,3,4,5,6,7,8,9,10] [[],[0],[0,1],[0,1,2],[0,1,2,3],[],[5],[5,6],[5,6,7],[0,1,2,3,4,5,6,7,8],[0,1,2,3,4,5,6,7,8,9]] mix (by kernel_rfl) ?_)) | ((with_reducible show AW _ (.region 7 _ _) _ _ _); (with_reducible refine AW.drawn (id := 7) hT [0,1,2,3,4,5,6,7,8,9,10,11,12,13,14,15,16] [[],[],[1],[1,2],[1,2,3],[],[5],[5,6],[5,6,7],[],[5,6,7,8,9],[5,6,7,8,9,10],[5,6,7,8,9,10,11],[1,2,3,4,5,6,7,8,9,10,11,12],[0,1,2,3,4,5,6,7,8,9,10,11,12,13],[0,1,2,3,4,5,6,7,8,9,10,11,12,13,14],[0,1,2,3,4,5,6,7,8,9,10,11,12,13,14,15]] mix (by kernel_rfl) ?_)) | ((with_reducible show DLeft _ _ _ _ (_ :: _) _ _ _ _); (with_reducible apply DLeft.step hT); (case hoi => ((simp only [List.getElem?_toArray,List.getElem?_cons_zero,List.getElem?_cons_succ]); with_reducible rfl)); (case hg => rfl); (case hk => rfl); (case hr => ((try simp (maxSteps := 3000000) (maxDischargeDepth := 12) only [push_cast,appendX,reduceIte,reduceCtorEq,Nat.reduceSub,Nat.reduceAdd,Nat.reduceMul,Nat.reduceLT,Nat.reduceLeDiff,Nat.reduceEqDiff,Nat.reduceBEq,Int.reduceToNat,Int.reduceLT,Int.reduceLE,Int.reduceEq,Int.reduceNeg,Try.results19]); with_reducible rfl))) | ((with_reducible refine AW.cond_true ?_ ?_); · rfl) | ((with_reducible refine AW.cond_false ?_ ?_); · rfl) | simp (maxSteps := 3000000) (maxDischargeDepth := 12) only [push_cast,appendX,reduceIte,reduceCtorEq,Nat.reduceSub,Nat.reduceAdd,Nat.reduceMul,Nat.reduceLT,Nat.reduceLeDiff,Nat.reduceEqDiff,Nat.reduceBEq,Int.reduceToNat,Int.reduceLT,Int.reduceLE,Int.reduceEq,Int.reduceNeg,Try.results19])
  refine AOpsL.call (first := []) (cap := []) hT rfl rfl rfl fn23 rfl (ACalls.mono (good_ok (room := w.room) (lost := w.lost) (d := d) _ (by simp (maxSteps := 3000000) (maxDischargeDepth := 12) only [push_cast, appendX, Nat.reduceAdd, Nat.reduceEqDiff, Nat.reduceLT, Nat.reduceLeDiff, reduceIte, reduceCtorEq, hp, Heap.lt hp])) ?_)
  rintro y σ' ⟨rfl, rfl⟩
  rw [hroom]
  repeat (first | (with_reducible refine AW.seq ?_) | (with_reducible refine AW.block ?_) | (with_reducible refine AW.skip ?_) | (with_reducible refine AW.ret ?_) | (with_reducible refine AW.exit ?_) | (with_reducible refine AW.reg hT ?_) | ((with_reducible show AW _ (.region 5 _ _) _ _ _); (with_reducible refine AW.drawn (id := 5) hT [0,1,2,3,4,5,6,7,8,9,10] [[],[0],[0,1],[0,1,2],[0,1,2,3],[],[5],[5,6],[5,6,7],[0,1,2,3,4,5,6,7,8],[0,1,2,3,4,5,6,7,8,9]] mix (by kernel_rfl) ?_)) | ((with_reducible show AW _ (.region 7 _ _) _ _ _); (with_reducible refine AW.drawn (id := 7) hT [0,1,2,3,4,5,6,7,8,9,10,11,12,13,14,15,16] [[],[],[1],[1,2],[1,2,3],[],[5],[5,6],[5,6,7],[],[5,6,7,8,9],[5,6,7,8,9,10],[5,6,7,8,9,10,11],[1,2,3,4,5,6,7,8,9,10,11,12],[0,1,2,3,4,5,6,7,8,9,10,11,12,13],[0,1,2,3,4,5,6,7,8,9,10,11,12,13,14],[0,1,2,3,4,5,6,7,8,9,10,11,12,13,14,15]] mix (by kernel_rfl) ?_)) | ((with_reducible show DLeft _ _ _ _ (_ :: _) _ _ _ _); (with_reducible apply DLeft.step hT); (case hoi => ((simp only [List.getElem?_toArray,List.getElem?_cons_zero,List.getElem?_cons_succ]); with_reducible rfl)); (case hg => rfl); (case hk => rfl); (case hr => ((try simp (maxSteps := 3000000) (maxDischargeDepth := 12) only [push_cast,appendX,reduceIte,reduceCtorEq,Nat.reduceSub,Nat.reduceAdd,Nat.reduceMul,Nat.reduceLT,Nat.reduceLeDiff,Nat.reduceEqDiff,Nat.reduceBEq,Int.reduceToNat,Int.reduceLT,Int.reduceLE,Int.reduceEq,Int.reduceNeg,Try.results19]); with_reducible rfl))) | ((with_reducible refine AW.cond_true ?_ ?_); · rfl) | ((with_reducible refine AW.cond_false ?_ ?_); · rfl) | simp (maxSteps := 3000000) (maxDischargeDepth := 12) only [push_cast,appendX,reduceIte,reduceCtorEq,Nat.reduceSub,Nat.reduceAdd,Nat.reduceMul,Nat.reduceLT,Nat.reduceLeDiff,Nat.reduceEqDiff,Nat.reduceBEq,Int.reduceToNat,Int.reduceLT,Int.reduceLE,Int.reduceEq,Int.reduceNeg,Try.results19])
  refine AOpsL.call (first := []) (cap := []) hT rfl rfl rfl fn26 rfl (ACalls.mono (has_ok' (room := w.room) (lost := w.lost) (d := d) (l := w.l) _ i (by simp (maxSteps := 3000000) (maxDischargeDepth := 12) only [push_cast, appendX, Nat.reduceAdd, Nat.reduceEqDiff, Nat.reduceLT, Nat.reduceLeDiff, reduceIte, reduceCtorEq, hp, Heap.lt hp]) hh) ?_)
  rintro y σ' ⟨rfl, rfl⟩
  by_cases hi : 0 ≤ i ∧ i < (w.l.length : Int)
  · have hi' : decide (0 ≤ i ∧ i < (w.l.length : Int)) = true := by simpa using hi
    rw [hi']
    repeat (first | (with_reducible refine AW.seq ?_) | (with_reducible refine AW.block ?_) | (with_reducible refine AW.skip ?_) | (with_reducible refine AW.ret ?_) | (with_reducible refine AW.exit ?_) | (with_reducible refine AW.reg hT ?_) | ((with_reducible show AW _ (.region 5 _ _) _ _ _); (with_reducible refine AW.drawn (id := 5) hT [0,1,2,3,4,5,6,7,8,9,10] [[],[0],[0,1],[0,1,2],[0,1,2,3],[],[5],[5,6],[5,6,7],[0,1,2,3,4,5,6,7,8],[0,1,2,3,4,5,6,7,8,9]] mix (by kernel_rfl) ?_)) | ((with_reducible show AW _ (.region 7 _ _) _ _ _); (with_reducible refine AW.drawn (id := 7) hT [0,1,2,3,4,5,6,7,8,9,10,11,12,13,14,15,16] [[],[],[1],[1,2],[1,2,3],[],[5],[5,6],[5,6,7],[],[5,6,7,8,9],[5,6,7,8,9,10],[5,6,7,8,9,10,11],[1,2,3,4,5,6,7,8,9,10,11,12],[0,1,2,3,4,5,6,7,8,9,10,11,12,13],[0,1,2,3,4,5,6,7,8,9,10,11,12,13,14],[0,1,2,3,4,5,6,7,8,9,10,11,12,13,14,15]] mix (by kernel_rfl) ?_)) | ((with_reducible show DLeft _ _ _ _ (_ :: _) _ _ _ _); (with_reducible apply DLeft.step hT); (case hoi => ((simp only [List.getElem?_toArray,List.getElem?_cons_zero,List.getElem?_cons_succ]); with_reducible rfl)); (case hg => rfl); (case hk => rfl); (case hr => ((try simp (maxSteps := 3000000) (maxDischargeDepth := 12) only [push_cast,appendX,reduceIte,reduceCtorEq,Nat.reduceSub,Nat.reduceAdd,Nat.reduceMul,Nat.reduceLT,Nat.reduceLeDiff,Nat.reduceEqDiff,Nat.reduceBEq,Int.reduceToNat,Int.reduceLT,Int.reduceLE,Int.reduceEq,Int.reduceNeg,Try.results19,hp,Heap.lt hp,WObj,↓hlen]); with_reducible rfl))) | ((with_reducible refine AW.cond_true ?_ ?_); · rfl) | ((with_reducible refine AW.cond_false ?_ ?_); · rfl) | simp (maxSteps := 3000000) (maxDischargeDepth := 12) only [push_cast,appendX,reduceIte,reduceCtorEq,Nat.reduceSub,Nat.reduceAdd,Nat.reduceMul,Nat.reduceLT,Nat.reduceLeDiff,Nat.reduceEqDiff,Nat.reduceBEq,Int.reduceToNat,Int.reduceLT,Int.reduceLE,Int.reduceEq,Int.reduceNeg,Try.results19,hp,Heap.lt hp,WObj,↓hlen])
    by_cases hf : w.room ≤ (w.l.length : Int)
    · have hf' : decide (w.room ≤ (w.l.length : Int)) = true := by simpa using hf
      repeat (first | (with_reducible refine AW.seq ?_) | (with_reducible refine AW.block ?_) | (with_reducible refine AW.skip ?_) | (with_reducible refine AW.ret ?_) | (with_reducible refine AW.exit ?_) | (with_reducible refine AW.reg hT ?_) | ((with_reducible show AW _ (.region 5 _ _) _ _ _); (with_reducible refine AW.drawn (id := 5) hT [0,1,2,3,4,5,6,7,8,9,10] [[],[0],[0,1],[0,1,2],[0,1,2,3],[],[5],[5,6],[5,6,7],[0,1,2,3,4,5,6,7,8],[0,1,2,3,4,5,6,7,8,9]] mix (by kernel_rfl) ?_)) | ((with_reducible show AW _ (.region 7 _ _) _ _ _); (with_reducible refine AW.drawn (id := 7) hT [0,1,2,3,4,5,6,7,8,9,10,11,12,13,14,15,16] [[],[],[1],[1,2],[1,2,3],[],[5],[5,6],[5,6,7],[],[5,6,7,8,9],[5,6,7,8,9,10],[5,6,7,8,9,10,11],[1,2,3,4,5,6,7,8,9,10,11,12],[0,1,2,3,4,5,6,7,8,9,10,11,12,13],[0,1,2,3,4,5,6,7,8,9,10,11,12,13,14],[0,1,2,3,4,5,6,7,8,9,10,11,12,13,14,15]] mix (by kernel_rfl) ?_)) | ((with_reducible show DLeft _ _ _ _ (_ :: _) _ _ _ _); (with_reducible apply DLeft.step hT); (case hoi => ((simp only [List.getElem?_toArray,List.getElem?_cons_zero,List.getElem?_cons_succ]); with_reducible rfl)); (case hg => rfl); (case hk => rfl); (case hr => ((try simp (maxSteps := 3000000) (maxDischargeDepth := 12) only [push_cast,appendX,reduceIte,reduceCtorEq,Nat.reduceSub,Nat.reduceAdd,Nat.reduceMul,Nat.reduceLT,Nat.reduceLeDiff,Nat.reduceEqDiff,Nat.reduceBEq,Int.reduceToNat,Int.reduceLT,Int.reduceLE,Int.reduceEq,Int.reduceNeg,Try.results19,hp,Heap.lt hp,WObj,hf']); with_reducible rfl))) | ((with_reducible refine AW.cond_true ?_ ?_); · rfl) | ((with_reducible refine AW.cond_false ?_ ?_); · rfl) | simp (maxSteps := 3000000) (maxDischargeDepth := 12) only [push_cast,appendX,reduceIte,reduceCtorEq,Nat.reduceSub,Nat.reduceAdd,Nat.reduceMul,Nat.reduceLT,Nat.reduceLeDiff,Nat.reduceEqDiff,Nat.reduceBEq,Int.reduceToNat,Int.reduceLT,Int.reduceLE,Int.reduceEq,Int.reduceNeg,Try.results19,hp,Heap.lt hp,WObj,hf'])
      have hs : w.twice i = (w, 7) := by simp only [Wi.twice, if_pos hi, if_pos hf]
      rw [hs]
      exact ⟨rfl, p :: tOf d, ⟨d, rfl, hp, hh⟩, Grew.refl _ _⟩
    · have hf' : decide (w.room ≤ (w.l.length : Int)) = false := by simpa using hf
      obtain ⟨k, rfl⟩ := Int.eq_ofNat_of_zero_le hi.1
      have hkl : k < w.l.length := by omega
      obtain ⟨t, full, hd, hg, hel⟩ := hh.at_ (i := k) (by simpa using hkl)
      obtain ⟨n, hn⟩ : ∃ n, n = (w.l.map eN).length := ⟨_, rfl⟩
      obtain ⟨m, hm⟩ : ∃ m, full.length = m := ⟨_, rfl⟩
      rw [← hn, hm] at hd
      obtain ⟨x, hx⟩ : ∃ x, x = w.l[k] := ⟨_, rfl⟩
      have hel' : full[k]? = some (eN x) := by rw [hel, hx]; simp
      have a1 : ((0 : Int) ≤ (k : Int)) = True := by simp
      have a2 : ((k : Int) < (n : Int)) = True := by simp [hn]; omega
      have htn : t ≠ p := by intro e; subst e; rw [hg] at hp; simp [WObj] at hp
      have hpt : (p = t) = False := by simpa using Ne.symm htn
      have htp : (t = p) = False := by simpa using htn
      rw [eN_eq] at hel'
      have hall : ([eN x].all fun el => el.length == 4) = true := rfl
      obtain ⟨d', σ3, happ, hh', hext, hfp⟩ := Hold.append (T := T) (ty := 52) (x := .sl σ'.n 0 1 1) (xs := [eN x]) (hh.frame (X := []) (σ' := σ'.push ⟨[eN x], 31, true⟩) (by repeat (first | exact Ext.refl _ _ | assumption | refine Ext.push ?_ _ | ((refine Ext.set ?_ ?_ _); rotate_left; · (simp (maxSteps := 3000000) (maxDischargeDepth := 12) only [push_cast, appendX, Nat.reduceAdd, Nat.reduceEqDiff, Nat.reduceLT, Nat.reduceLeDiff, reduceIte, reduceCtorEq])) | ((refine Ext.then1 (by assumption) ?_ ?_); rotate_left; · (intro p hp _; first | assumption | exact List.mem_cons_of_mem _ hp | (cases hp; done) | (simp at hp; subst hp; simp))))) (by simp)) rfl rfl (by decide) (by simp (maxSteps := 3000000) (maxDischargeDepth := 12) only [push_cast,appendX,reduceIte,reduceCtorEq,Nat.reduceSub,Nat.reduceAdd,Nat.reduceMul,Nat.reduceLT,Nat.reduceLeDiff,Nat.reduceEqDiff,Nat.reduceBEq,Int.reduceToNat,Int.reduceLT,Int.reduceLE,Int.reduceEq,Int.reduceNeg,sliceD]) (by simp) hall (by have := hk.len; simp; omega)
      have hcl := hh'.cells
      have hlf := hh'.leaf
      have hh2 := hh'
      rw [hd] at hp happ hext
      simp only [eN_eq, tOf] at happ hext
      repeat (first | (with_reducible refine AW.seq ?_) | (with_reducible refine AW.block ?_) | (with_reducible refine AW.skip ?_) | (with_reducible refine AW.ret ?_) | (with_reducible refine AW.exit ?_) | (with_reducible refine AW.reg hT ?_) | ((with_reducible show AW _ (.region 5 _ _) _ _ _); (with_reducible refine AW.drawn (id := 5) hT [0,1,2,3,4,5,6,7,8,9,10] [[],[0],[0,1],[0,1,2],[0,1,2,3],[],[5],[5,6],[5,6,7],[0,1,2,3,4,5,6,7,8],[0,1,2,3,4,5,6,7,8,9]] mix (by kernel_rfl) ?_)) | ((with_reducible show AW _ (.region 7 _ _) _ _ _); (with_reducible refine AW.drawn (id := 7) hT [0,1,2,3,4,5,6,7,8,9,10,11,12,13,14,15,16] [[],[],[1],[1,2],[1,2,3],[],[5],[5,6],[5,6,7],[],[5,6,7,8,9],[5,6,7,8,9,10],[5,6,7,8,9,10,11],[1,2,3,4,5,6,7,8,9,10,11,12],[0,1,2,3,4,5,6,7,8,9,10,11,12,13],[0,1,2,3,4,5,6,7,8,9,10,11,12,13,14],[0,1,2,3,4,5,6,7,8,9,10,11,12,13,14,15]] mix (by kernel_rfl) ?_)) | ((with_reducible show DLeft _ _ _ _ (_ :: _) _ _ _ _); (with_reducible apply DLeft.step hT); (case hoi => ((simp only [List.getElem?_toArray,List.getElem?_cons_zero,List.getElem?_cons_succ]); with_reducible rfl)); (case hg => rfl); (case hk => rfl); (case hr => ((try simp (maxSteps := 3000000) (maxDischargeDepth := 12) only [push_cast,appendX,reduceIte,reduceCtorEq,Nat.reduceSub,Nat.reduceAdd,Nat.reduceMul,Nat.reduceLT,Nat.reduceLeDiff,Nat.reduceEqDiff,Nat.reduceBEq,Int.reduceToNat,Int.reduceLT,Int.reduceLE,Int.reduceEq,Int.reduceNeg,Try.results19,hp,Heap.lt hp,hg,Heap.lt hg,hext.2,hext.ltT,hext.leT,WObj,hf',hm,hel',a1,a2,hpt,htp,↓happ,↓hcl,↓hlf]); with_reducible rfl))) | ((with_reducible refine AW.cond_true ?_ ?_); · rfl) | ((with_reducible refine AW.cond_false ?_ ?_); · rfl) | simp (maxSteps := 3000000) (maxDischargeDepth := 12) only [push_cast,appendX,reduceIte,reduceCtorEq,Nat.reduceSub,Nat.reduceAdd,Nat.reduceMul,Nat.reduceLT,Nat.reduceLeDiff,Nat.reduceEqDiff,Nat.reduceBEq,Int.reduceToNat,Int.reduceLT,Int.reduceLE,Int.reduceEq,Int.reduceNeg,Try.results19,hp,Heap.lt hp,hg,Heap.lt hg,hext.2,hext.ltT,hext.leT,WObj,hf',hm,hel',a1,a2,hpt,htp,↓happ,↓hcl,↓hlf])
      have hs : w.twice (k : Int) = ({ w with l := w.l ++ [x] }, 0) := by
        simp only [Wi.twice, if_pos hi, if_neg hf]
        simp [hkl, hx]
      rw [hs]
      refine ⟨rfl, p :: tOf d', wire_set (σ := σ3) (d := d') (w := { w with l := w.l ++ [x] }) (o := WObj w.room (.sl t 0 n m) w.lost) (by simp (maxSteps := 3000000) (maxDischargeDepth := 12) only [push_cast, appendX, Nat.reduceAdd, Nat.reduceEqDiff, Nat.reduceLT, Nat.reduceLeDiff, reduceIte, reduceCtorEq, hp, Heap.lt hp, hext.2, hext.ltT, hext.leT, hpt, htp]) (by simp [WObj]) (by simpa using hh2), ?_, fun q hq hm => ?_⟩
      · rw [hd]; simp only [tOf]
        repeat (first | exact Ext.refl _ _ | assumption | refine Ext.push ?_ _ | ((refine Ext.set ?_ ?_ _); rotate_left; · (simp (maxSteps := 3000000) (maxDischargeDepth := 12) only [push_cast, appendX, Nat.reduceAdd, Nat.reduceEqDiff, Nat.reduceLT, Nat.reduceLeDiff, reduceIte, reduceCtorEq, hp, Heap.lt hp])) | ((refine Ext.then1 (by assumption) ?_ ?_); rotate_left; · (intro p hp _; first | assumption | exact List.mem_cons_of_mem _ hp | (cases hp; done) | (simp at hp; subst hp; simp))))
      · rcases List.mem_cons.1 hm with rfl | hm
        · exact List.mem_cons_self
        · refine List.mem_cons_of_mem _ (hfp q ?_ hm)
          simp; omega
  · have hi' : decide (0 ≤ i ∧ i < (w.l.length : Int)) = false := by simpa using hi
    rw [hi']
    repeat (first | (with_reducible refine AW.seq ?_) | (with_reducible refine AW.block ?_) | (with_reducible refine AW.skip ?_) | (with_reducible refine AW.ret ?_) | (with_reducible refine AW.exit ?_) | (with_reducible refine AW.reg hT ?_) | ((with_reducible show AW _ (.region 5 _ _) _ _ _); (with_reducible refine AW.drawn (id := 5) hT [0,1,2,3,4,5,6,7,8,9,10] [[],[0],[0,1],[0,1,2],[0,1,2,3],[],[5],[5,6],[5,6,7],[0,1,2,3,4,5,6,7,8],[0,1,2,3,4,5,6,7,8,9]] mix (by kernel_rfl) ?_)) | ((with_reducible show AW _ (.region 7 _ _) _ _ _); (with_reducible refine AW.drawn (id := 7) hT [0,1,2,3,4,5,6,7,8,9,10,11,12,13,14,15,16] [[],[],[1],[1,2],[1,2,3],[],[5],[5,6],[5,6,7],[],[5,6,7,8,9],[5,6,7,8,9,10],[5,6,7,8,9,10,11],[1,2,3,4,5,6,7,8,9,10,11,12],[0,1,2,3,4,5,6,7,8,9,10,11,12,13],[0,1,2,3,4,5,6,7,8,9,10,11,12,13,14],[0,1,2,3,4,5,6,7,8,9,10,11,12,13,14,15]] mix (by kernel_rfl) ?_)) | ((with_reducible show DLeft _ _ _ _ (_ :: _) _ _ _ _); (with_reducible apply DLeft.step hT); (case hoi => ((simp only [List.getElem?_toArray,List.getElem?_cons_zero,List.getElem?_cons_succ]); with_reducible rfl)); (case hg => rfl); (case hk => rfl); (case hr => ((try simp (maxSteps := 3000000) (maxDischargeDepth := 12) only [push_cast,appendX,reduceIte,reduceCtorEq,Nat.reduceSub,Nat.reduceAdd,Nat.reduceMul,Nat.reduceLT,Nat.reduceLeDiff,Nat.reduceEqDiff,Nat.reduceBEq,Int.reduceToNat,Int.reduceLT,Int.reduceLE,Int.reduceEq,Int.reduceNeg,Try.results19,hp,Heap.lt hp]); with_reducible rfl))) | ((with_reducible refine AW.cond_true ?_ ?_); · rfl) | ((with_reducible refine AW.cond_false ?_ ?_); · rfl) | simp (maxSteps := 3000000) (maxDischargeDepth := 12) only [push_cast,appendX,reduceIte,reduceCtorEq,Nat.reduceSub,Nat.reduceAdd,Nat.reduceMul,Nat.reduceLT,Nat.reduceLeDiff,Nat.reduceEqDiff,Nat.reduceBEq,Int.reduceToNat,Int.reduceLT,Int.reduceLE,Int.reduceEq,Int.reduceNeg,Try.results19,hp,Heap.lt hp])
    have hs : w.twice i = (w, 8) := by simp only [Wi.twice, if_neg hi]
    rw [hs]
    exact ⟨rfl, p :: tOf d, ⟨d, rfl, hp, hh⟩, Grew.refl _ _⟩
end Go.Proofs.Ytcjlnaplkodgpaa.Cm
