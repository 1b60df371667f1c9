/- TedbBack. -/
import Derived.Test.YtkcccomdamdocaaTedbP1
namespace Go.Proofs.Ytkcccomdamdocaa.Cm
open Go.RowKit
set_option linter.unusedVariables false
set_option linter.unusedSimpArgs false
set_option maxRecDepth 20000
set_option maxHeartbeats 8000000
theorem toImmP {P : Program} {σ : Heap} {f : FuncId} {args : List DV} {e : TypeId} {els : List (List DV)} {y : Value} (h : ACalls P f args σ (fun x σ' => ∃ d, x = .tup [d, .sc y] ∧ Hold σ' d e els ∧ (∀ q ∈ tOf d, σ.n ≤ q) ∧ Ext [] σ σ')) : ACalls P f args σ (fun x σ' => x = .tup [.imm els, .sc y] ∧ Ext [] σ σ') := by
  refine ACalls.toImmG (e := e) (els := els) (fun d => .tup [d, .sc y]) ?_ ?_ h
  · intro t m es d d' h
    obtain ⟨h1, h2⟩ := FZL.spec (t := t) (m := m) (els := es) (l := [d, .sc y]) (l' := [d', .sc y]) ⟨h, .keep _, trivial⟩
    exact .tup h1 h2
  · exact Tells.tup ⟨Tells.nil, Tells.refl _, trivial⟩
theorem dcd_step {f : Nat} {l : List Int} (hl : l ≠ []) (hf : 0 < f) : dcd f l = if okR l then (dcd (f - 1) (st l 16).1).map (rdA l 8 :: ·) else none := by
  obtain ⟨g, rfl⟩ : ∃ g, f = g + 1 := ⟨f - 1, by omega⟩
  rw [dcd, if_neg hl]; rfl
theorem dcd_nil (f : Nat) : dcd f [] = some [] := by cases f <;> simp [dcd]
def pdI (b : List Int) (p : Nat) (σ0 : Heap) (m : Nat) (ts : List DV) (σ : Heap) : Prop := ∃ acc rest d, m = rest.length + 1 ∧ acc.length * 88 + rest.length = b.length ∧ Octs rest ∧ dcd 64 b = (dcd (64 - acc.length) rest).map (acc ++ ·) ∧ σ.get p = some (ROb rest 0) ∧ Hold σ d 40 (acc.map eA) ∧ (∀ q ∈ tOf d, σ0.n ≤ q) ∧ Ext [] σ0 σ ∧ TellsL ts (.any :: .any :: .any :: .any :: d :: .ptr p 0 0 1 :: .any :: .any :: .any :: .any :: .any :: .any :: .any :: .any :: .any :: .any :: .any :: .any :: .any :: .any :: .any :: .any :: .any :: .any :: .any :: .any :: .any :: .any :: [])
theorem pdecode_ok (σ : Heap) (b : List Int) (ho : Octs b) (hb : b.length ≤ 1000000) : ACalls Try.prog 27 [.imm (bytesD b)] σ (fun x σ' => x = .tup [.imm ((decT b).1.map eA), .sc (.int .i64 (decT b).2)] ∧ Ext [] σ σ') := by
  have dcml : (bytesD b).length = b.length := bytesD_length _
  refine toImmP (e := 40) ?_
  refine ACalls.code hT Try.func27 rfl ?_
  simp only [Try.ntmps27, List.length_cons, List.length_nil, Nat.reduceSub, Nat.reduceAdd, List.replicate, List.cons_append, List.nil_append]
  by_cases h4 : 5632 < b.length
  · have dc1 : decide (5632 < (b.length : Int)) = true := by simp; omega
    repeat (first | (with_reducible refine AW.seq ?_) | (with_reducible refine AW.block ?_) | (with_reducible refine AW.skip ?_) | (with_reducible refine AW.ret ?_) | (with_reducible refine AW.exit ?_) | (with_reducible refine AW.reg hT ?_) | ((with_reducible refine AW.cond_true ?_ ?_); · rfl) | ((with_reducible refine AW.cond_false ?_ ?_); · rfl) | simp (maxSteps := 3000000) (maxDischargeDepth := 12) only [push_cast, appendX, reduceIte, reduceCtorEq, Nat.reduceSub, Nat.reduceAdd, Nat.reduceMul, Nat.reduceLT, Nat.reduceLeDiff, Nat.reduceEqDiff, Nat.reduceBEq, Int.reduceToNat, Int.reduceLT, Int.reduceLE, Int.reduceEq, Int.reduceNeg, Try.results27, dcml, dc1])
    have : decT b = ([], 5) := by rw [decT, if_pos h4]
    exact ⟨_, by rw [this], by rw [this]; exact Hold.nil _ _, by simp [tOf], Ext.refl _ _⟩
  · have dc1 : decide (5632 < (b.length : Int)) = false := by simp; omega
    repeat (first | (with_reducible refine AW.seq ?_) | (with_reducible refine AW.block ?_) | (with_reducible refine AW.skip ?_) | (with_reducible refine AW.ret ?_) | (with_reducible refine AW.exit ?_) | (with_reducible refine AW.reg hT ?_) | ((with_reducible refine AW.cond_true ?_ ?_); · rfl) | ((with_reducible refine AW.cond_false ?_ ?_); · rfl) | simp (maxSteps := 3000000) (maxDischargeDepth := 12) only [push_cast, appendX, reduceIte, reduceCtorEq, Nat.reduceSub, Nat.reduceAdd, Nat.reduceMul, Nat.reduceLT, Nat.reduceLeDiff, Nat.reduceEqDiff, Nat.reduceBEq, Int.reduceToNat, Int.reduceLT, Int.reduceLE, Int.reduceEq, Int.reduceNeg, Try.results27, dcml, dc1])
    refine AOpsL.call (first := []) (cap := []) hT rfl rfl rfl fn39 rfl (ACalls.mono (rdnew_ok _ (.imm (bytesD b)) b (Src.imm _ _) hb) ?_)
    rintro x σ1 ⟨p, rfl, hpn, gtp, xt1⟩
    repeat (first | (with_reducible refine AW.seq ?_) | (with_reducible refine AW.block ?_) | (with_reducible refine AW.skip ?_) | (with_reducible refine AW.ret ?_) | (with_reducible refine AW.exit ?_) | (with_reducible refine AW.reg hT ?_) | ((with_reducible refine AW.cond_true ?_ ?_); · rfl) | ((with_reducible refine AW.cond_false ?_ ?_); · rfl) | simp (maxSteps := 3000000) (maxDischargeDepth := 12) only [push_cast, appendX, reduceIte, reduceCtorEq, Nat.reduceSub, Nat.reduceAdd, Nat.reduceMul, Nat.reduceLT, Nat.reduceLeDiff, Nat.reduceEqDiff, Nat.reduceBEq, Int.reduceToNat, Int.reduceLT, Int.reduceLE, Int.reduceEq, Int.reduceNeg, Try.results27, dcml, dc1, gtp, Heap.lt gtp, xt1.2, xt1.ltT, xt1.leT])
    refine AW.loop (pdI b p σ) (m := b.length + 1) ⟨[], b, .sc (.slice none 0 0), rfl, by simp, ho, by simp, gtp, Hold.nil _ _, by simp [tOf], xt1, by (simp only [push_cast, TellsL, tells_any, tells_refl])⟩ ?_
    clear gtp xt1
    rintro m ts σ3 ⟨acc, r, d, rfl, hsum, hor, hdec, gtr, hh, hnew, xt3, hts⟩
    refine AW.told hts ?_
    clear hts
    have hpd : p ∉ tOf d := hh.ne gtr (by simp [ROb])
    repeat (first | (with_reducible refine AW.seq ?_) | (with_reducible refine AW.block ?_) | (with_reducible refine AW.skip ?_) | (with_reducible refine AW.ret ?_) | (with_reducible refine AW.exit ?_) | (with_reducible refine AW.reg hT ?_) | ((with_reducible refine AW.cond_true ?_ ?_); · rfl) | ((with_reducible refine AW.cond_false ?_ ?_); · rfl) | simp (maxSteps := 3000000) (maxDischargeDepth := 12) only [push_cast, appendX, reduceIte, reduceCtorEq, Nat.reduceSub, Nat.reduceAdd, Nat.reduceMul, Nat.reduceLT, Nat.reduceLeDiff, Nat.reduceEqDiff, Nat.reduceBEq, Int.reduceToNat, Int.reduceLT, Int.reduceLE, Int.reduceEq, Int.reduceNeg, Try.results27, dcml, dc1, gtr, Heap.lt gtr, xt3.2, xt3.ltT, xt3.leT])
    refine AOpsL.call (first := []) (cap := []) hT rfl rfl rfl fn40 rfl (ACalls.mono (left_ok _ gtr) ?_)
    rintro x σ' ⟨rfl, rfl⟩
    by_cases hr0 : r = []
    · subst hr0
      have dcr : decide (0 < (([] : List Int).length : Int)) = false := rfl
      have dncl := hh.cells
      have dnlf := hh.leaf
      repeat (first | (with_reducible refine AW.seq ?_) | (with_reducible refine AW.block ?_) | (with_reducible refine AW.skip ?_) | (with_reducible refine AW.ret ?_) | (with_reducible refine AW.exit ?_) | (with_reducible refine AW.reg hT ?_) | ((with_reducible refine AW.cond_true ?_ ?_); · rfl) | ((with_reducible refine AW.cond_false ?_ ?_); · rfl) | simp (maxSteps := 3000000) (maxDischargeDepth := 12) only [push_cast, appendX, reduceIte, reduceCtorEq, Nat.reduceSub, Nat.reduceAdd, Nat.reduceMul, Nat.reduceLT, Nat.reduceLeDiff, Nat.reduceEqDiff, Nat.reduceBEq, Int.reduceToNat, Int.reduceLT, Int.reduceLE, Int.reduceEq, Int.reduceNeg, Try.results27, List.length_nil, Int.lt_irrefl, cast0, dcml, dc1, gtr, Heap.lt gtr, xt3.2, xt3.ltT, xt3.leT, dcr, ↓dncl, ↓dnlf])
      have : decT b = (acc, 0) := by rw [decT, if_neg h4, hdec, dcd_nil]; simp
      rw [this]
      exact ⟨d, rfl, hh, hnew, xt3⟩
    · have hrl : 0 < r.length := List.length_pos_iff.2 hr0
      have dcr : decide (0 < (r.length : Int)) = true := by simp; omega
      have hstep := dcd_step (f := 64 - acc.length) hr0 (by omega)
      rw [hstep] at hdec
      repeat (first | (with_reducible refine AW.seq ?_) | (with_reducible refine AW.block ?_) | (with_reducible refine AW.skip ?_) | (with_reducible refine AW.ret ?_) | (with_reducible refine AW.exit ?_) | (with_reducible refine AW.reg hT ?_) | ((with_reducible refine AW.cond_true ?_ ?_); · rfl) | ((with_reducible refine AW.cond_false ?_ ?_); · rfl) | simp (maxSteps := 3000000) (maxDischargeDepth := 12) only [push_cast, appendX, reduceIte, reduceCtorEq, Nat.reduceSub, Nat.reduceAdd, Nat.reduceMul, Nat.reduceLT, Nat.reduceLeDiff, Nat.reduceEqDiff, Nat.reduceBEq, Int.reduceToNat, Int.reduceLT, Int.reduceLE, Int.reduceEq, Int.reduceNeg, Try.results27, dcml, dc1, gtr, Heap.lt gtr, xt3.2, xt3.ltT, xt3.leT, dcr])
      refine AOpsL.call (first := []) (cap := []) hT rfl rfl rfl fn41 rfl (ACalls.mono (one_ok _ gtr hor) ?_)
      rintro x σ4 ⟨rfl, gt4, xt4⟩
      by_cases hok : okR r
      · have dcok : decide (okR r) = true := by simpa using hok
        rw [dcok]
        obtain ⟨h88, hst⟩ := okR_st hok
        rw [if_pos hok, hst] at hdec
        have hst2 : st r 16 = (r.drop 88, 0) := Prod.ext hst hok.2.2.1
        rw [hst2] at gt4
        have hh4 := hh.frame xt4 (by intro q hq h; exact hpd (by simp at h; rw [← h]; exact hq))
        have xt5 : Ext [] σ σ4 := xt3.then xt4 (by simp; omega)
        have hmp : (acc ++ [rdA r 8]).map eA = acc.map eA ++ [eA (rdA r 8)] := by simp
        clear xt3 xt4 gtr hh
        obtain ⟨d5, σ5, dnapp, hh5, hnew5, xt6, xt7⟩ := Hold.app1x (ty := 47) (x := eA (rdA r 8)) (σ0 := σ) (σ := (σ4.push ⟨[[.sc (.int .i64 0), .sc (.int .i64 0), .sc (.int .u64 0), .sc (.int .i64 0), .sc (.int .u32 0), .sc (.int .i64 0), .sc (.bool false), .sc (.int .u64 0), .sc (.int .u64 0), .sc (.int .u64 0), .sc (.int .u64 0), .sc (.int .u64 0), .sc (.int .u64 0), .sc (.int .u64 0), .sc (.int .u64 0)]], 40, true⟩).set σ4.n ⟨[eA (rdA r 8)], 40, true⟩) (hh4.frame (X := []) (by repeat (first | exact Ext.refl _ _ | assumption | refine Ext.push ?_ _ | ((refine Ext.set ?_ ?_ _); rotate_left; · (simp (maxSteps := 3000000) (maxDischargeDepth := 12) only [push_cast, appendX, Nat.reduceAdd, Nat.reduceEqDiff, Nat.reduceLT, Nat.reduceLeDiff, reduceIte, reduceCtorEq, dcml, dc1, dcr, gt4, Heap.lt gt4, dcok, xt5.2, xt5.ltT, xt5.leT])) | ((refine Ext.then1 (by assumption) ?_ ?_); rotate_left; · (intro p hp _; first | assumption | exact List.mem_cons_of_mem _ hp | (cases hp; done) | (simp at hp; subst hp; simp))))) (by simp)) hnew (by repeat (first | exact Ext.refl _ _ | assumption | refine Ext.push ?_ _ | ((refine Ext.set ?_ ?_ _); rotate_left; · (simp (maxSteps := 3000000) (maxDischargeDepth := 12) only [push_cast, appendX, Nat.reduceAdd, Nat.reduceEqDiff, Nat.reduceLT, Nat.reduceLeDiff, reduceIte, reduceCtorEq, dcml, dc1, dcr, gt4, Heap.lt gt4, dcok, xt5.2, xt5.ltT, xt5.leT])) | ((refine Ext.then1 (by assumption) ?_ ?_); rotate_left; · (intro p hp _; first | assumption | exact List.mem_cons_of_mem _ hp | (cases hp; done) | (simp at hp; subst hp; simp))))) rfl rfl (by decide) rfl (by simp; omega)
        have gt5 := xt7.get (p := p) (o := ROb (r.drop 88) 0) (by simp (maxSteps := 3000000) (maxDischargeDepth := 12) only [push_cast, appendX, Nat.reduceAdd, Nat.reduceEqDiff, Nat.reduceLT, Nat.reduceLeDiff, reduceIte, reduceCtorEq, dcml, dc1, dcr, gt4, Heap.lt gt4, dcok, xt5.2, xt5.ltT, xt5.leT, ↓dnapp, xt6.2, xt6.ltT, xt6.leT, xt7.2, xt7.ltT, xt7.leT]) hpd
        clear xt7
        generalize rdA r 8 = y at dnapp hdec hmp hh5 ⊢
        simp only [eA_eq, Heap.n_set, Heap.n_push] at dnapp
        simp only [eA_eq]
        repeat (first | (with_reducible refine AW.seq ?_) | (with_reducible refine AW.block ?_) | (with_reducible refine AW.skip ?_) | (with_reducible refine AW.ret ?_) | (with_reducible refine AW.exit ?_) | (with_reducible refine AW.reg hT ?_) | ((with_reducible refine AW.cond_true ?_ ?_); · rfl) | ((with_reducible refine AW.cond_false ?_ ?_); · rfl) | simp (maxSteps := 3000000) (maxDischargeDepth := 12) only [push_cast, appendX, reduceIte, reduceCtorEq, Nat.reduceSub, Nat.reduceAdd, Nat.reduceMul, Nat.reduceLT, Nat.reduceLeDiff, Nat.reduceEqDiff, Nat.reduceBEq, Int.reduceToNat, Int.reduceLT, Int.reduceLE, Int.reduceEq, Int.reduceNeg, Try.results27, dcml, dc1, dcr, gt4, Heap.lt gt4, dcok, xt5.2, xt5.ltT, xt5.leT, ↓dnapp, xt6.2, xt6.ltT, xt6.leT, gt5, Heap.lt gt5])
        refine ⟨(r.drop 88).length + 1, by simp; omega, acc ++ [y], r.drop 88, d5, rfl, by simp; omega, hor.drop 88, ?_, gt5, by rw [hmp]; exact hh5, hnew5, xt6, by (simp only [push_cast, TellsL, tells_any, tells_refl])⟩
        rw [hdec, Option.map_map]
        congr 1
        · funext o; simp
        · congr 1; simp; omega
      · have dcok : decide (okR r) = false := by simpa using hok
        rw [dcok]
        rw [if_neg hok] at hdec
        generalize rdA r 8 = y
        simp only [eA_eq]
        repeat (first | (with_reducible refine AW.seq ?_) | (with_reducible refine AW.block ?_) | (with_reducible refine AW.skip ?_) | (with_reducible refine AW.ret ?_) | (with_reducible refine AW.exit ?_) | (with_reducible refine AW.reg hT ?_) | ((with_reducible refine AW.cond_true ?_ ?_); · rfl) | ((with_reducible refine AW.cond_false ?_ ?_); · rfl) | simp (maxSteps := 3000000) (maxDischargeDepth := 12) only [push_cast, appendX, reduceIte, reduceCtorEq, Nat.reduceSub, Nat.reduceAdd, Nat.reduceMul, Nat.reduceLT, Nat.reduceLeDiff, Nat.reduceEqDiff, Nat.reduceBEq, Int.reduceToNat, Int.reduceLT, Int.reduceLE, Int.reduceEq, Int.reduceNeg, Try.results27, dcml, dc1, dcr, gt4, Heap.lt gt4, dcok])
        have : decT b = ([], 5) := by rw [decT, if_neg h4, hdec]; rfl
        have xt5 : Ext [] σ σ4 := xt3.then xt4 (by simp; omega)
        clear xt3 xt4
        exact ⟨_, by rw [this], by rw [this]; exact Hold.nil _ _, by simp [tOf], by repeat (first | exact Ext.refl _ _ | assumption | refine Ext.push ?_ _ | ((refine Ext.set ?_ ?_ _); rotate_left; · (simp (maxSteps := 3000000) (maxDischargeDepth := 12) only [push_cast, appendX, Nat.reduceAdd, Nat.reduceEqDiff, Nat.reduceLT, Nat.reduceLeDiff, reduceIte, reduceCtorEq, dcml, dc1, dcr, gt4, Heap.lt gt4, dcok, xt5.2, xt5.ltT, xt5.leT])) | ((refine Ext.then1 (by assumption) ?_ ?_); rotate_left; · (intro p hp _; first | assumption | exact List.mem_cons_of_mem _ hp | (cases hp; done) | (simp at hp; subst hp; simp))))⟩
def laI (l : List Ad) (σ0 : Heap) (m : Nat) (ts : List DV) (σ : Heap) : Prop := ∃ i d, m = l.length + 1 - i ∧ i ≤ l.length ∧ Hold σ d 40 ((l.take i).map eA) ∧ (∀ q ∈ tOf d, σ0.n ≤ q) ∧ Ext [] σ0 σ ∧ TellsL ts (.any :: .any :: .any :: d :: .any :: .any :: .imm (l.map eA) :: .sc (.int .i64 l.length) :: .sc (.int .i64 i) :: .any :: .any :: .any :: .any :: .any :: .any :: .any :: .any :: .any :: .any :: [])
theorem lall_ok (σ : Heap) (l : List Ad) (hl : l.length ≤ 1000000) : ACalls Try.prog 25 [.imm (l.map eA)] σ (fun x σ' => x = .imm (l.map eA) ∧ Ext [] σ σ') := by
  have dcml : (l.map eA).length = l.length := by simp
  refine ACalls.toImmH (e := 40) ?_
  refine ACalls.code hT Try.func25 rfl ?_
  simp only [Try.ntmps25, List.length_cons, List.length_nil, Nat.reduceSub, Nat.reduceAdd, List.replicate, List.cons_append, List.nil_append]
  repeat (first | (with_reducible refine AW.seq ?_) | (with_reducible refine AW.block ?_) | (with_reducible refine AW.skip ?_) | (with_reducible refine AW.ret ?_) | (with_reducible refine AW.exit ?_) | (with_reducible refine AW.reg hT ?_) | ((with_reducible refine AW.cond_true ?_ ?_); · rfl) | ((with_reducible refine AW.cond_false ?_ ?_); · rfl) | simp (maxSteps := 3000000) (maxDischargeDepth := 12) only [push_cast, appendX, reduceIte, reduceCtorEq, Nat.reduceSub, Nat.reduceAdd, Nat.reduceMul, Nat.reduceLT, Nat.reduceLeDiff, Nat.reduceEqDiff, Nat.reduceBEq, Int.reduceToNat, Int.reduceLT, Int.reduceLE, Int.reduceEq, Int.reduceNeg, Try.results25, dcml])
  refine AW.loop (laI l σ) (m := l.length + 1) ⟨0, .sc (.slice none 0 0), rfl, Nat.zero_le _, Hold.nil _ _, by simp [tOf], Ext.refl _ _, by (simp only [push_cast, TellsL, tells_any, tells_refl])⟩ ?_
  rintro m ts σ3 ⟨i, d, rfl, hil, hh, hnew, xt3, hts⟩
  refine AW.told hts ?_
  clear hts
  by_cases hi : i < l.length
  · have dci : decide ((i : Int) < (l.length : Int)) = true := by simp; omega
    have dci2 : ((i : Int) < (l.length : Int)) = True := by simp; omega
    have dci0 : ((0 : Int) ≤ (i : Int)) = True := by simp
    obtain ⟨x, hx⟩ : ∃ x, x = l[i] := ⟨_, rfl⟩
    have dcel : (l.map eA)[i]? = some (eA x) := by rw [List.getElem?_map, List.getElem?_eq_getElem hi, hx]; rfl
    rw [eA_eq] at dcel
    have dcw : IntKind.i64.wrap ((i : Int) + 1) = (i : Int) + 1 := wrap_i64 (by omega) (by omega)
    have htk : (l.take (i + 1)).map eA = (l.take i).map eA ++ [eA x] := by rw [List.take_add_one, List.getElem?_eq_getElem hi, ← hx]; simp
    repeat (first | (with_reducible refine AW.seq ?_) | (with_reducible refine AW.block ?_) | (with_reducible refine AW.skip ?_) | (with_reducible refine AW.ret ?_) | (with_reducible refine AW.exit ?_) | (with_reducible refine AW.reg hT ?_) | ((with_reducible refine AW.cond_true ?_ ?_); · rfl) | ((with_reducible refine AW.cond_false ?_ ?_); · rfl) | simp (maxSteps := 3000000) (maxDischargeDepth := 12) only [push_cast, appendX, reduceIte, reduceCtorEq, Nat.reduceSub, Nat.reduceAdd, Nat.reduceMul, Nat.reduceLT, Nat.reduceLeDiff, Nat.reduceEqDiff, Nat.reduceBEq, Int.reduceToNat, Int.reduceLT, Int.reduceLE, Int.reduceEq, Int.reduceNeg, Try.results25, dcml, xt3.2, xt3.ltT, xt3.leT, dci, dci2, dci0, dcel, dcw])
    refine AOpsL.call (first := []) (cap := []) hT rfl rfl rfl fn15 rfl (ACalls.mono (theirs_ok _ x) ?_)
    rintro y σ4 ⟨rfl, xt4⟩
    have xt5 : Ext [] σ3 σ4 := by repeat (first | exact Ext.refl _ _ | assumption | refine Ext.push ?_ _ | ((refine Ext.set ?_ ?_ _); rotate_left; · (simp (maxSteps := 3000000) (maxDischargeDepth := 12) only [push_cast, appendX, Nat.reduceAdd, Nat.reduceEqDiff, Nat.reduceLT, Nat.reduceLeDiff, reduceIte, reduceCtorEq, dcml, xt3.2, xt3.ltT, xt3.leT, dci, dci2, dci0, dcel, dcw, xt4.2, xt4.ltT, xt4.leT])) | ((refine Ext.then1 (by assumption) ?_ ?_); rotate_left; · (intro p hp _; first | assumption | exact List.mem_cons_of_mem _ hp | (cases hp; done) | (simp at hp; subst hp; simp))))
    have xt6 := xt3.trans xt5
    obtain ⟨d5, σ5, dnapp, hh5, hnew5, xt7⟩ := Hold.app1 (ty := 47) (x := eA x) (hh.frame xt5 (by simp)) hnew xt6 rfl rfl (by decide) rfl (by simp; omega)
    simp only [eA_eq] at dnapp
    simp only [eA_eq]
    repeat (first | (with_reducible refine AW.seq ?_) | (with_reducible refine AW.block ?_) | (with_reducible refine AW.skip ?_) | (with_reducible refine AW.ret ?_) | (with_reducible refine AW.exit ?_) | (with_reducible refine AW.reg hT ?_) | ((with_reducible refine AW.cond_true ?_ ?_); · rfl) | ((with_reducible refine AW.cond_false ?_ ?_); · rfl) | simp (maxSteps := 3000000) (maxDischargeDepth := 12) only [push_cast, appendX, reduceIte, reduceCtorEq, Nat.reduceSub, Nat.reduceAdd, Nat.reduceMul, Nat.reduceLT, Nat.reduceLeDiff, Nat.reduceEqDiff, Nat.reduceBEq, Int.reduceToNat, Int.reduceLT, Int.reduceLE, Int.reduceEq, Int.reduceNeg, Try.results25, dcml, xt3.2, xt3.ltT, xt3.leT, dci, dci2, dci0, dcel, dcw, xt4.2, xt4.ltT, xt4.leT, xt5.2, xt5.ltT, xt5.leT, xt6.2, xt6.ltT, xt6.leT, ↓dnapp, xt7.2, xt7.ltT, xt7.leT])
    exact ⟨l.length + 1 - (i + 1), by omega, i + 1, d5, rfl, hi, by rw [htk]; exact hh5, hnew5, xt7, by (simp only [push_cast, TellsL, tells_any, tells_refl])⟩
  · have dci : decide ((i : Int) < (l.length : Int)) = false := by simp; omega
    have he : i = l.length := by omega
    subst he
    rw [List.take_length] at hh
    have dncl := hh.cells
    have dnlf := hh.leaf
    repeat (first | (with_reducible refine AW.seq ?_) | (with_reducible refine AW.block ?_) | (with_reducible refine AW.skip ?_) | (with_reducible refine AW.ret ?_) | (with_reducible refine AW.exit ?_) | (with_reducible refine AW.reg hT ?_) | ((with_reducible refine AW.cond_true ?_ ?_); · rfl) | ((with_reducible refine AW.cond_false ?_ ?_); · rfl) | simp (maxSteps := 3000000) (maxDischargeDepth := 12) only [push_cast, appendX, reduceIte, reduceCtorEq, Nat.reduceSub, Nat.reduceAdd, Nat.reduceMul, Nat.reduceLT, Nat.reduceLeDiff, Nat.reduceEqDiff, Nat.reduceBEq, Int.reduceToNat, Int.reduceLT, Int.reduceLE, Int.reduceEq, Int.reduceNeg, Try.results25, dcml, xt3.2, xt3.ltT, xt3.leT, dci, ↓dncl, ↓dnlf])
    exact ⟨hh, hnew, xt3⟩
theorem bytsA_octs : ∀ l : List Ad, Octs (bytsA l)
  | [] => by simp [bytsA, Octs]
  | a :: l => by
    have h1 := bytsA_octs l
    have e : bytsA (a :: l) = bytA a ++ bytsA l := by simp [bytsA]
    rw [e, bytA_val]
    refine Octs.append ?_ h1
    intro d hd
    obtain ⟨j, _, hj⟩ := List.mem_flatMap.1 hd
    exact digits_octs _ _ d hj
theorem encT_octs (l : List Ad) : Octs (encT l).1 := by
  unfold encT
  split
  · simp [Octs]
  · split
    · exact bytsA_octs l
    · simp [Octs]
theorem encT_len (l : List Ad) : (encT l).1.length ≤ 88 * 64 := by
  unfold encT
  split
  · simp
  · split
    · rw [bytsA_length]; omega
    · simp
theorem back_ok (l : List Ad) (b : List Int) (h : l.length ≤ maxLen ∧ ∀ y ∈ l, wA y) (hb : b.length ≤ maxLen ∧ ∀ y ∈ b, (Lit.int .u8 y).wf = true) (hy : b.length * 1 ≤ 140737488351232) : ACalls Try.prog 9 [.imm (l.map eA), .imm (b.map (fun n : Int => [DV.sc (.int .u8 n)]))] ⟨[]⟩ (fun x _ => x = .sc (.bool true)) := by
  generalize (⟨[]⟩ : Heap) = σ
  have ho : Octs b := fun d hd => by have := wf_u8 (hb.2 d hd); omega
  have dcb : (bytesD b).length = b.length := bytesD_length _
  have dcml : (l.map eA).length = l.length := by simp
  show ACalls Try.prog 9 [.imm (l.map eA), .imm (bytesD b)] σ (fun x _ => x = .sc (.bool true))
  refine ACalls.code hT Try.func9 rfl ?_
  simp only [Try.ntmps9, List.length_cons, List.length_nil, Nat.reduceSub, Nat.reduceAdd, List.replicate, List.cons_append, List.nil_append]
  repeat (first | (with_reducible refine AW.seq ?_) | (with_reducible refine AW.block ?_) | (with_reducible refine AW.skip ?_) | (with_reducible refine AW.ret ?_) | (with_reducible refine AW.exit ?_) | (with_reducible refine AW.reg hT ?_) | ((with_reducible refine AW.cond_true ?_ ?_); · rfl) | ((with_reducible refine AW.cond_false ?_ ?_); · rfl) | simp (maxSteps := 3000000) (maxDischargeDepth := 12) only [push_cast, appendX, reduceIte, reduceCtorEq, Nat.reduceSub, Nat.reduceAdd, Nat.reduceMul, Nat.reduceLT, Nat.reduceLeDiff, Nat.reduceEqDiff, Nat.reduceBEq, Int.reduceToNat, Int.reduceLT, Int.reduceLE, Int.reduceEq, Int.reduceNeg, Try.results9, dcb, dcml])
  refine AOpsL.call (first := []) (cap := []) hT rfl rfl rfl fn10 rfl (ACalls.mono (alive_ok _) ?_)
  rintro y σ1 ⟨rfl, xt1⟩
  by_cases h1 : 100 < l.length
  · have dc1 : decide (100 < (l.length : Int)) = true := by simp; omega
    repeat (first | (with_reducible refine AW.seq ?_) | (with_reducible refine AW.block ?_) | (with_reducible refine AW.skip ?_) | (with_reducible refine AW.ret ?_) | (with_reducible refine AW.exit ?_) | (with_reducible refine AW.reg hT ?_) | ((with_reducible refine AW.cond_true ?_ ?_); · rfl) | ((with_reducible refine AW.cond_false ?_ ?_); · rfl) | simp (maxSteps := 3000000) (maxDischargeDepth := 12) only [push_cast, appendX, reduceIte, reduceCtorEq, Nat.reduceSub, Nat.reduceAdd, Nat.reduceMul, Nat.reduceLT, Nat.reduceLeDiff, Nat.reduceEqDiff, Nat.reduceBEq, Int.reduceToNat, Int.reduceLT, Int.reduceLE, Int.reduceEq, Int.reduceNeg, Try.results9, dcb, dcml, xt1.2, xt1.ltT, xt1.leT, dc1])
  have dc1 : decide (100 < (l.length : Int)) = false := by simp; omega
  by_cases h2 : 9000 < b.length
  · have dc2 : decide (9000 < (b.length : Int)) = true := by simp; omega
    repeat (first | (with_reducible refine AW.seq ?_) | (with_reducible refine AW.block ?_) | (with_reducible refine AW.skip ?_) | (with_reducible refine AW.ret ?_) | (with_reducible refine AW.exit ?_) | (with_reducible refine AW.reg hT ?_) | ((with_reducible refine AW.cond_true ?_ ?_); · rfl) | ((with_reducible refine AW.cond_false ?_ ?_); · rfl) | simp (maxSteps := 3000000) (maxDischargeDepth := 12) only [push_cast, appendX, reduceIte, reduceCtorEq, Nat.reduceSub, Nat.reduceAdd, Nat.reduceMul, Nat.reduceLT, Nat.reduceLeDiff, Nat.reduceEqDiff, Nat.reduceBEq, Int.reduceToNat, Int.reduceLT, Int.reduceLE, Int.reduceEq, Int.reduceNeg, Try.results9, dcb, dcml, xt1.2, xt1.ltT, xt1.leT, dc1, dc2])
  have dc2 : decide (9000 < (b.length : Int)) = false := by simp; omega
  have hoe := encT_octs l
  have hle := encT_len l
  repeat ((fail_if_success (with_reducible refine AW.at1 (id := 5) ?_)); (fail_if_success (with_reducible refine AW.at2 (id := 5) ?_)); first | (with_reducible refine AW.seq ?_) | (with_reducible refine AW.block ?_) | (with_reducible refine AW.skip ?_) | (with_reducible refine AW.ret ?_) | (with_reducible refine AW.exit ?_) | (with_reducible refine AW.reg hT ?_) | ((with_reducible refine AW.cond_true ?_ ?_); · rfl) | ((with_reducible refine AW.cond_false ?_ ?_); · rfl) | simp (maxSteps := 3000000) (maxDischargeDepth := 12) only [push_cast, appendX, reduceIte, reduceCtorEq, Nat.reduceSub, Nat.reduceAdd, Nat.reduceMul, Nat.reduceLT, Nat.reduceLeDiff, Nat.reduceEqDiff, Nat.reduceBEq, Int.reduceToNat, Int.reduceLT, Int.reduceLE, Int.reduceEq, Int.reduceNeg, Try.results9, dcb, dcml, xt1.2, xt1.ltT, xt1.leT, dc1, dc2])
  refine AW.seqK (fun ts _ => TellsL ts (.any :: .imm (bytesD b) :: .any :: .any :: .any :: .any :: .any :: .any :: .any :: .any :: .any :: .any :: .any :: .any :: .any :: .any :: .any :: .any :: .any :: .any :: .any :: .any :: .any :: .any :: .any :: .any :: .any :: .any :: .any :: .any :: .any :: .any :: .any :: .any :: .any :: .any :: .any :: .any :: .any :: .any :: .any :: .any :: .any :: .any :: .any :: .any :: .any :: .any :: .any :: .any :: .any :: .any :: .any :: .any :: .any :: .any :: .any :: .any :: .any :: .any :: .any :: .any :: .any :: .any :: .any :: .any :: [])) ?_ ?_
  · repeat (first | (with_reducible refine AW.seq ?_) | (with_reducible refine AW.block ?_) | (with_reducible refine AW.skip ?_) | (with_reducible refine AW.ret ?_) | (with_reducible refine AW.exit ?_) | (with_reducible refine AW.reg hT ?_) | ((with_reducible refine AW.cond_true ?_ ?_); · rfl) | ((with_reducible refine AW.cond_false ?_ ?_); · rfl) | simp (maxSteps := 3000000) (maxDischargeDepth := 12) only [push_cast, appendX, reduceIte, reduceCtorEq, Nat.reduceSub, Nat.reduceAdd, Nat.reduceMul, Nat.reduceLT, Nat.reduceLeDiff, Nat.reduceEqDiff, Nat.reduceBEq, Int.reduceToNat, Int.reduceLT, Int.reduceLE, Int.reduceEq, Int.reduceNeg, Try.results9, dcb, dcml, xt1.2, xt1.ltT, xt1.leT, dc1, dc2])
    refine AOpsL.call (first := []) (cap := []) hT rfl rfl rfl fn25 rfl (ACalls.mono (lall_ok _ l (by omega)) ?_)
    rintro y σ2 ⟨rfl, xt2⟩
    repeat (first | (with_reducible refine AW.seq ?_) | (with_reducible refine AW.block ?_) | (with_reducible refine AW.skip ?_) | (with_reducible refine AW.ret ?_) | (with_reducible refine AW.exit ?_) | (with_reducible refine AW.reg hT ?_) | ((with_reducible refine AW.cond_true ?_ ?_); · rfl) | ((with_reducible refine AW.cond_false ?_ ?_); · rfl) | simp (maxSteps := 3000000) (maxDischargeDepth := 12) only [push_cast, appendX, reduceIte, reduceCtorEq, Nat.reduceSub, Nat.reduceAdd, Nat.reduceMul, Nat.reduceLT, Nat.reduceLeDiff, Nat.reduceEqDiff, Nat.reduceBEq, Int.reduceToNat, Int.reduceLT, Int.reduceLE, Int.reduceEq, Int.reduceNeg, Try.results9, dcb, dcml, xt1.2, xt1.ltT, xt1.leT, dc1, dc2, xt2.2, xt2.ltT, xt2.leT])
    refine AOpsL.call (first := []) (cap := []) hT rfl rfl rfl fn24 rfl (ACalls.mono (tencode_ok _ l h.2) ?_)
    rintro y σ3 ⟨rfl, xt3⟩
    by_cases he : (encT l).2 = 0
    · have dce : ((encT l).2 == 0) = true := by simpa using he
      have hbk := decT_enc h.2 he
      repeat (first | (with_reducible refine AW.seq ?_) | (with_reducible refine AW.block ?_) | (with_reducible refine AW.skip ?_) | (with_reducible refine AW.ret ?_) | (with_reducible refine AW.exit ?_) | (with_reducible refine AW.reg hT ?_) | ((with_reducible refine AW.cond_true ?_ ?_); · rfl) | ((with_reducible refine AW.cond_false ?_ ?_); · rfl) | simp (maxSteps := 3000000) (maxDischargeDepth := 12) only [push_cast, appendX, reduceIte, reduceCtorEq, Nat.reduceSub, Nat.reduceAdd, Nat.reduceMul, Nat.reduceLT, Nat.reduceLeDiff, Nat.reduceEqDiff, Nat.reduceBEq, Int.reduceToNat, Int.reduceLT, Int.reduceLE, Int.reduceEq, Int.reduceNeg, Try.results9, dcb, dcml, xt1.2, xt1.ltT, xt1.leT, dc1, dc2, xt2.2, xt2.ltT, xt2.leT, xt3.2, xt3.ltT, xt3.leT, dce])
      refine AOpsL.call (first := []) (cap := []) hT rfl rfl rfl fn27 rfl (ACalls.mono (pdecode_ok _ (encT l).1 hoe (by omega)) ?_)
      rw [hbk]
      rintro y σ4 ⟨rfl, xt4⟩
      repeat (first | (with_reducible refine AW.seq ?_) | (with_reducible refine AW.block ?_) | (with_reducible refine AW.skip ?_) | (with_reducible refine AW.ret ?_) | (with_reducible refine AW.exit ?_) | (with_reducible refine AW.reg hT ?_) | ((with_reducible refine AW.cond_true ?_ ?_); · rfl) | ((with_reducible refine AW.cond_false ?_ ?_); · rfl) | simp (maxSteps := 3000000) (maxDischargeDepth := 12) only [push_cast, appendX, reduceIte, reduceCtorEq, Nat.reduceSub, Nat.reduceAdd, Nat.reduceMul, Nat.reduceLT, Nat.reduceLeDiff, Nat.reduceEqDiff, Nat.reduceBEq, Int.reduceToNat, Int.reduceLT, Int.reduceLE, Int.reduceEq, Int.reduceNeg, Try.results9, dcb, dcml, xt1.2, xt1.ltT, xt1.leT, dc1, dc2, xt2.2, xt2.ltT, xt2.leT, xt3.2, xt3.ltT, xt3.leT, dce, xt4.2, xt4.ltT, xt4.leT])
      refine AOpsL.call (first := []) (cap := []) hT rfl rfl rfl fn18 rfl (ACalls.mono (ours_ok _ l (by omega)) ?_)
      rintro y σ5 ⟨rfl, xt5⟩
      repeat (first | (with_reducible refine AW.seq ?_) | (with_reducible refine AW.block ?_) | (with_reducible refine AW.skip ?_) | (with_reducible refine AW.ret ?_) | (with_reducible refine AW.exit ?_) | (with_reducible refine AW.reg hT ?_) | ((with_reducible refine AW.cond_true ?_ ?_); · rfl) | ((with_reducible refine AW.cond_false ?_ ?_); · rfl) | simp (maxSteps := 3000000) (maxDischargeDepth := 12) only [push_cast, appendX, reduceIte, reduceCtorEq, Nat.reduceSub, Nat.reduceAdd, Nat.reduceMul, Nat.reduceLT, Nat.reduceLeDiff, Nat.reduceEqDiff, Nat.reduceBEq, Int.reduceToNat, Int.reduceLT, Int.reduceLE, Int.reduceEq, Int.reduceNeg, Try.results9, dcb, dcml, xt1.2, xt1.ltT, xt1.leT, dc1, dc2, xt2.2, xt2.ltT, xt2.leT, xt3.2, xt3.ltT, xt3.leT, dce, xt4.2, xt4.ltT, xt4.leT, xt5.2, xt5.ltT, xt5.leT])
      refine AOpsL.call (first := []) (cap := []) hT rfl rfl rfl fn17 rfl (ACalls.mono (same_ok _ l (by omega)) ?_)
      rintro y σ6 ⟨rfl, xt6⟩
      repeat (first | (with_reducible refine AW.seq ?_) | (with_reducible refine AW.block ?_) | (with_reducible refine AW.skip ?_) | (with_reducible refine AW.ret ?_) | (with_reducible refine AW.exit ?_) | (with_reducible refine AW.reg hT ?_) | ((with_reducible refine AW.cond_true ?_ ?_); · rfl) | ((with_reducible refine AW.cond_false ?_ ?_); · rfl) | simp (maxSteps := 3000000) (maxDischargeDepth := 12) only [push_cast, appendX, reduceIte, reduceCtorEq, Nat.reduceSub, Nat.reduceAdd, Nat.reduceMul, Nat.reduceLT, Nat.reduceLeDiff, Nat.reduceEqDiff, Nat.reduceBEq, Int.reduceToNat, Int.reduceLT, Int.reduceLE, Int.reduceEq, Int.reduceNeg, Try.results9, dcb, dcml, xt1.2, xt1.ltT, xt1.leT, dc1, dc2, xt2.2, xt2.ltT, xt2.leT, xt3.2, xt3.ltT, xt3.leT, dce, xt4.2, xt4.ltT, xt4.leT, xt5.2, xt5.ltT, xt5.leT, xt6.2, xt6.ltT, xt6.leT])
      (simp only [push_cast, TellsL, tells_any, tells_refl])
    · have dce : ((encT l).2 == 0) = false := by simpa using he
      repeat (first | (with_reducible refine AW.seq ?_) | (with_reducible refine AW.block ?_) | (with_reducible refine AW.skip ?_) | (with_reducible refine AW.ret ?_) | (with_reducible refine AW.exit ?_) | (with_reducible refine AW.reg hT ?_) | ((with_reducible refine AW.cond_true ?_ ?_); · rfl) | ((with_reducible refine AW.cond_false ?_ ?_); · rfl) | simp (maxSteps := 3000000) (maxDischargeDepth := 12) only [push_cast, appendX, reduceIte, reduceCtorEq, Nat.reduceSub, Nat.reduceAdd, Nat.reduceMul, Nat.reduceLT, Nat.reduceLeDiff, Nat.reduceEqDiff, Nat.reduceBEq, Int.reduceToNat, Int.reduceLT, Int.reduceLE, Int.reduceEq, Int.reduceNeg, Try.results9, dcb, dcml, xt1.2, xt1.ltT, xt1.leT, dc1, dc2, xt2.2, xt2.ltT, xt2.leT, xt3.2, xt3.ltT, xt3.leT, dce])
      (simp only [push_cast, TellsL, tells_any, tells_refl])
  · rintro ts σ2 hts
    refine AW.told hts ?_
    repeat (first | (with_reducible refine AW.seq ?_) | (with_reducible refine AW.block ?_) | (with_reducible refine AW.skip ?_) | (with_reducible refine AW.ret ?_) | (with_reducible refine AW.exit ?_) | (with_reducible refine AW.reg hT ?_) | ((with_reducible refine AW.cond_true ?_ ?_); · rfl) | ((with_reducible refine AW.cond_false ?_ ?_); · rfl) | simp (maxSteps := 3000000) (maxDischargeDepth := 12) only [push_cast, appendX, reduceIte, reduceCtorEq, Nat.reduceSub, Nat.reduceAdd, Nat.reduceMul, Nat.reduceLT, Nat.reduceLeDiff, Nat.reduceEqDiff, Nat.reduceBEq, Int.reduceToNat, Int.reduceLT, Int.reduceLE, Int.reduceEq, Int.reduceNeg, Try.results9, dcb, dcml, xt1.2, xt1.ltT, xt1.leT, dc1, dc2])
    refine AOpsL.call (first := []) (cap := []) hT rfl rfl rfl fn27 rfl (ACalls.mono (pdecode_ok _ b ho (by omega)) ?_)
    rintro y σ3 ⟨rfl, xt3⟩
    by_cases he : (decT b).2 = 0
    · have dce : ((decT b).2 == 0) = true := by simpa using he
      obtain ⟨hbk, _, hl2⟩ := decT_ok ho he
      have hwd : ∀ a ∈ (decT b).1, wA a := by
        have h2 := decT_wf ho
        exact h2
      repeat (first | (with_reducible refine AW.seq ?_) | (with_reducible refine AW.block ?_) | (with_reducible refine AW.skip ?_) | (with_reducible refine AW.ret ?_) | (with_reducible refine AW.exit ?_) | (with_reducible refine AW.reg hT ?_) | ((with_reducible refine AW.cond_true ?_ ?_); · rfl) | ((with_reducible refine AW.cond_false ?_ ?_); · rfl) | simp (maxSteps := 3000000) (maxDischargeDepth := 12) only [push_cast, appendX, reduceIte, reduceCtorEq, Nat.reduceSub, Nat.reduceAdd, Nat.reduceMul, Nat.reduceLT, Nat.reduceLeDiff, Nat.reduceEqDiff, Nat.reduceBEq, Int.reduceToNat, Int.reduceLT, Int.reduceLE, Int.reduceEq, Int.reduceNeg, Try.results9, dcb, dcml, xt1.2, xt1.ltT, xt1.leT, dc1, dc2, xt3.2, xt3.ltT, xt3.leT, dce])
      refine AOpsL.call (first := []) (cap := []) hT rfl rfl rfl fn24 rfl (ACalls.mono (tencode_ok _ _ hwd) ?_)
      rw [hbk]
      rintro y σ4 ⟨rfl, xt4⟩
      repeat (first | (with_reducible refine AW.seq ?_) | (with_reducible refine AW.block ?_) | (with_reducible refine AW.skip ?_) | (with_reducible refine AW.ret ?_) | (with_reducible refine AW.exit ?_) | (with_reducible refine AW.reg hT ?_) | ((with_reducible refine AW.cond_true ?_ ?_); · rfl) | ((with_reducible refine AW.cond_false ?_ ?_); · rfl) | simp (maxSteps := 3000000) (maxDischargeDepth := 12) only [push_cast, appendX, reduceIte, reduceCtorEq, Nat.reduceSub, Nat.reduceAdd, Nat.reduceMul, Nat.reduceLT, Nat.reduceLeDiff, Nat.reduceEqDiff, Nat.reduceBEq, Int.reduceToNat, Int.reduceLT, Int.reduceLE, Int.reduceEq, Int.reduceNeg, Try.results9, dcb, dcml, xt1.2, xt1.ltT, xt1.leT, dc1, dc2, xt3.2, xt3.ltT, xt3.leT, dce, xt4.2, xt4.ltT, xt4.leT])
    · have dce : ((decT b).2 == 0) = false := by simpa using he
      repeat (first | (with_reducible refine AW.seq ?_) | (with_reducible refine AW.block ?_) | (with_reducible refine AW.skip ?_) | (with_reducible refine AW.ret ?_) | (with_reducible refine AW.exit ?_) | (with_reducible refine AW.reg hT ?_) | ((with_reducible refine AW.cond_true ?_ ?_); · rfl) | ((with_reducible refine AW.cond_false ?_ ?_); · rfl) | simp (maxSteps := 3000000) (maxDischargeDepth := 12) only [push_cast, appendX, reduceIte, reduceCtorEq, Nat.reduceSub, Nat.reduceAdd, Nat.reduceMul, Nat.reduceLT, Nat.reduceLeDiff, Nat.reduceEqDiff, Nat.reduceBEq, Int.reduceToNat, Int.reduceLT, Int.reduceLE, Int.reduceEq, Int.reduceNeg, Try.results9, dcb, dcml, xt1.2, xt1.ltT, xt1.leT, dc1, dc2, xt3.2, xt3.ltT, xt3.leT, dce])
end Go.Proofs.Ytkcccomdamdocaa.Cm
