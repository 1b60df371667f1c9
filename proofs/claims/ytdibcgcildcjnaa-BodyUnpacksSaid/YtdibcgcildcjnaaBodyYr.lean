/- Package body: rows written no more; the law's own helpers. Package body: the very same objects; the law's alive. Package body: the law's same, and its alive. Package body: items and what Pack answers. Package body: what is told of an item that may be. -/
import Derived.Test.YtdibcgcildcjnaaBodyYq
namespace Go.Proofs.Ytdibcgcildcjnaa.Cm
open Go.RowKit
set_option linter.unusedVariables false
set_option linter.unusedSimpArgs false
set_option maxRecDepth 20000
set_option maxHeartbeats 8000000
theorem FZ.item {t m : Nat} {es : List (List DV)} {d d' : DV} (x : Fs) (h : FZ t m es d d') : FZ t m es (.agg (itC x d)) (.agg (itC x d')) := by
  obtain ⟨h1, h2⟩ := FZL.spec (t := t) (m := m) (els := es) (l := itC x d) (l' := itC x d') ⟨.keep _, .keep _, .keep _, .keep _, .keep _, h, .keep _, .keep _, .keep _, .keep _, .keep _, .keep _, trivial⟩
  exact .agg h1 h2
theorem FZ.two {t m : Nat} {es : List (List DV)} {d d' y : DV} (h : FZ t m es d d') : FZ t m es (.tup [d, y]) (.tup [d', y]) := by
  obtain ⟨h1, h2⟩ := FZL.spec (t := t) (m := m) (els := es) (l := [d, y]) (l' := [d', y]) ⟨h, .keep _, trivial⟩
  exact .tup h1 h2
theorem FZ.ob {t m : Nat} {es : List (List DV)} {d d' x y : DV} (h : FZ t m es d d') : FZ t m es (.agg [x, y, d]) (.agg [x, y, d']) := by
  obtain ⟨h1, h2⟩ := FZL.spec (t := t) (m := m) (els := es) (l := [x, y, d]) (l' := [x, y, d']) ⟨.keep _, .keep _, h, trivial⟩
  exact .agg h1 h2
/-- What an object says, frozen. -/
theorem unpackI_ok (σ : Heap) {c k : Int} {d : DV} {b : List Int} (dncl : cellsD d = [d]) (dnlf : Cm.leaf d = true) (hs : Src σ d (bytesD b)) (ho : Octs b) (hb : b.length ≤ 1000000) (hc : -9223372036854775808 ≤ c ∧ c ≤ 9223372036854775807) :
    ACalls Try.prog 14 [.agg [.sc (.int .i64 c), .sc (.int .i64 k), d]] σ (fun y σ' => y = .tup [.agg (itC (unpA c k b).1 (.imm ((unpA c k b).2.1.map eI))), .sc (.int .i64 (unpA c k b).2.2)] ∧ Ext [] σ σ') := by
  refine ACalls.toImmG (e := 3) (els := (unpA c k b).2.1.map eI) (fun d => .tup [.agg (itC (unpA c k b).1 d), .sc (.int .i64 (unpA c k b).2.2)]) (fun t m es d d' h => FZ.two (FZ.item _ h)) ?_ ?_
  · exact Tells.tup ⟨Tells.agg ⟨Tells.refl _, Tells.refl _, Tells.refl _, Tells.refl _, Tells.refl _, Tells.nil, Tells.refl _, Tells.refl _, Tells.refl _, Tells.refl _, Tells.refl _, Tells.refl _, trivial⟩, Tells.refl _, trivial⟩
  · exact (unpack_ok σ dncl dnlf hs ho hb hc).mono fun y σ' ⟨h1, dl, h2, h3, h4⟩ => ⟨dl, h2, h3, h4, h1⟩
theorem packI_ok (σ : Heap) {x : Fs} {L : List Int} (hw : x.Wf) (hL : L.length ≤ 1000000) :
    ACalls Try.prog 9 [.agg (itC x (.imm (L.map eI)))] σ (fun y σ' => y = .tup [.agg [.sc (.int .i64 (packA x L).1), .sc (.int .i64 (packA x L).2.1), .imm (bytesD (packA x L).2.2.1)], .sc (.int .i64 (packA x L).2.2.2)] ∧ Ext [] σ σ') := by
  refine ACalls.toImmG (e := 5) (els := bytesD (packA x L).2.2.1) (fun d => .tup [.agg [.sc (.int .i64 (packA x L).1), .sc (.int .i64 (packA x L).2.1), d], .sc (.int .i64 (packA x L).2.2.2)]) (fun t m es d d' h => FZ.two (FZ.ob h)) ?_ ?_
  · exact Tells.tup ⟨Tells.agg ⟨Tells.refl _, Tells.refl _, Tells.nil, trivial⟩, Tells.refl _, trivial⟩
  · exact (pack_ok σ hw hL).mono fun y σ' ⟨h1, dl, h2, h3, h4⟩ => ⟨dl, h2, h3, h4, h1⟩
def RtO (x : Fs) (d : DV) : AObj := ⟨[itC x d], 28, true⟩
def rsI (L M : List Int) (p q : Nat) (σ0 : Heap) (m : Nat) (ts : List DV) (σ : Heap) : Prop := ∃ i, m = L.length + 1 - i ∧ i ≤ L.length ∧ L.take i = M.take i ∧ σ = σ0 ∧ TellsL ts (.any :: .any :: .ptr p 0 0 1 :: .ptr q 0 0 1 :: .any :: .sc (.int .i64 i) :: .any :: .any :: .any :: .any :: .any :: .any :: .any :: .any :: .any :: .any :: .any :: .any :: .any :: .any :: .any :: .any :: .any :: .any :: .any :: .any :: .any :: .any :: .any :: .any :: .any :: .any :: .any :: .any :: .any :: .any :: .any :: .any :: .any :: .any :: .any :: .any :: .any :: .any :: .any :: .any :: .any :: .any :: .any :: .any :: .any :: .any :: .any :: .any :: .any :: .any :: .any :: .any :: .any :: .any :: .any :: .any :: .any :: .any :: .any :: .any :: .any :: .any :: .any :: .any :: .any :: [])
theorem rsame_ok (σ : Heap) {x y : Fs} {L M : List Int} (hL : L.length ≤ 1000000) : ACalls Try.prog 17 [.agg (itC x (.imm (L.map eI))), .agg (itC y (.imm (M.map eI)))] σ (fun r σ' => Ext [] σ σ' ∧ ∃ b : Bool, r = .sc (.bool b) ∧ (b = true ↔ x = y ∧ L = M)) := by
  refine ACalls.code hT Try.func17 rfl ?_
  simp only [Try.ntmps17, List.length_cons, List.length_nil, Nat.reduceSub, Nat.reduceAdd, List.replicate, List.cons_append, List.nil_append]
  repeat ((fail_if_success (with_reducible refine AW.at1 (id := 1) ?_)); (fail_if_success (with_reducible refine AW.at2 (id := 1) ?_)); first | (with_reducible refine AW.seq ?_) | (with_reducible refine AW.block ?_) | (with_reducible refine AW.skip ?_) | (with_reducible refine AW.ret ?_) | (with_reducible refine AW.exit ?_) | (with_reducible refine AW.reg hT ?_) | ((with_reducible refine AW.cond_true ?_ ?_); · rfl) | ((with_reducible refine AW.cond_false ?_ ?_); · rfl) | simp (maxSteps := 3000000) (maxDischargeDepth := 12) only [push_cast,appendX,reduceIte,reduceCtorEq,Nat.reduceSub,Nat.reduceAdd,Nat.reduceMul,Nat.reduceLT,Nat.reduceLeDiff,Nat.reduceEqDiff,Nat.reduceBEq,Int.reduceToNat,Int.reduceLT,Int.reduceLE,Int.reduceEq,Int.reduceNeg,Try.results17,itC])
  refine AW.name (fun σ2 hσ1 => ?_)
  have gtp2 : σ2.get σ.n = some (RtO x (.imm (L.map eI))) := by subst hσ1; simp (maxSteps := 3000000) (maxDischargeDepth := 12) only [push_cast, appendX, Nat.reduceAdd, Nat.reduceEqDiff, Nat.reduceLT, Nat.reduceLeDiff, reduceIte, reduceCtorEq, RtO, itC]
  have gtq2 : σ2.get (σ.n + 1) = some (RtO y (.imm (M.map eI))) := by subst hσ1; simp (maxSteps := 3000000) (maxDischargeDepth := 12) only [push_cast, appendX, Nat.reduceAdd, Nat.reduceEqDiff, Nat.reduceLT, Nat.reduceLeDiff, reduceIte, reduceCtorEq, RtO, itC, gtp2, Heap.lt gtp2]
  have x02 : Ext [] σ σ2 := by subst hσ1; repeat (first | exact Ext.refl _ _ | assumption | refine Ext.push ?_ _ | ((refine Ext.set ?_ ?_ _); rotate_left; · (simp (maxSteps := 3000000) (maxDischargeDepth := 12) only [push_cast, appendX, Nat.reduceAdd, Nat.reduceEqDiff, Nat.reduceLT, Nat.reduceLeDiff, reduceIte, reduceCtorEq, gtp2, Heap.lt gtp2, gtq2, Heap.lt gtq2])) | ((refine Ext.then1 (by assumption) ?_ ?_); rotate_left; · (intro p hp _; first | assumption | exact List.mem_cons_of_mem _ hp | (cases hp; done) | (simp at hp; subst hp; simp))))
  clear hσ1
  have hne : σ.n ≠ σ.n + 1 := by omega
  generalize σ.n = p at gtp2 gtq2 hne ⊢
  generalize p + 1 = q at gtq2 hne ⊢
  have gtq2 := gtq2
  have del : (L.map eI).length = L.length := List.length_map ..
  have dem : (M.map eI).length = M.length := List.length_map ..
  by_cases hlm : L.length = M.length
  · have dclm : ((L.length : Int) == (M.length : Int)) = true := by simp [hlm]
    repeat (first | (with_reducible refine AW.seq ?_) | (with_reducible refine AW.block ?_) | (with_reducible refine AW.skip ?_) | (with_reducible refine AW.ret ?_) | (with_reducible refine AW.exit ?_) | (with_reducible refine AW.reg hT ?_) | ((with_reducible refine AW.cond_true ?_ ?_); · rfl) | ((with_reducible refine AW.cond_false ?_ ?_); · rfl) | simp (maxSteps := 3000000) (maxDischargeDepth := 12) only [push_cast,appendX,reduceIte,reduceCtorEq,Nat.reduceSub,Nat.reduceAdd,Nat.reduceMul,Nat.reduceLT,Nat.reduceLeDiff,Nat.reduceEqDiff,Nat.reduceBEq,Int.reduceToNat,Int.reduceLT,Int.reduceLE,Int.reduceEq,Int.reduceNeg,Try.results17,RtO,itC,del,dem,gtp2,Heap.lt gtp2,gtq2,Heap.lt gtq2,dclm])
    refine AW.loop (rsI L M p q σ2) (m := L.length + 1) ⟨0, rfl, Nat.zero_le _, rfl, rfl, by (simp only [push_cast, TellsL, tells_any, tells_refl])⟩ ?_
    rintro m ts σ3 ⟨i, rfl, hi, htk, rfl, hts⟩
    refine AW.told hts ?_
    clear hts
    by_cases hlt : i < L.length
    · have dci : decide ((i : Int) < (L.length : Int)) = true := by simp; omega
      have dci2 : ((i : Int) < (L.length : Int)) = True := by simp; omega
      have dci3 : ((i : Int) < (M.length : Int)) = True := by simp; omega
      have dci0 : ((0 : Int) ≤ (i : Int)) = True := by simp
      have dcw : IntKind.i64.wrap ((i : Int) + 1) = (i : Int) + 1 := wrap_i64 (by omega) (by omega)
      have hlm2 : i < M.length := by omega
      have dcel : (L.map eI)[i]? = some [.sc (.int .i64 L[i])] := by rw [List.getElem?_map, List.getElem?_eq_getElem hlt]; rfl
      have dcem : (M.map eI)[i]? = some [.sc (.int .i64 M[i])] := by rw [List.getElem?_map, List.getElem?_eq_getElem hlm2]; rfl
      by_cases he : L[i] = M[i]
      · have dce : (L[i] == M[i]) = true := by simpa using he
        repeat (first | (with_reducible refine AW.seq ?_) | (with_reducible refine AW.block ?_) | (with_reducible refine AW.skip ?_) | (with_reducible refine AW.ret ?_) | (with_reducible refine AW.exit ?_) | (with_reducible refine AW.reg hT ?_) | (with_reducible refine AW.drawn (id := 6) hT [0,1,2,3,4,5,6,7,8,9,10] [[],[0],[],[0,1,2],[0,1,2,3],[],[5],[],[5,6,7],[5,6,7,8],[0,1,2,3,4,5,6,7,8,9]] mix (by kernel_rfl) ?_) | ((with_reducible show DLeft _ _ _ _ (_ :: _) _ _ _ _); (with_reducible apply DLeft.step hT); (case hoi => ((simp only [List.getElem?_toArray,List.getElem?_cons_zero,List.getElem?_cons_succ]); with_reducible rfl)); (case hg => rfl); (case hk => rfl); (case hr => ((try simp (maxSteps := 3000000) (maxDischargeDepth := 12) only [push_cast,appendX,reduceIte,reduceCtorEq,Nat.reduceSub,Nat.reduceAdd,Nat.reduceMul,Nat.reduceLT,Nat.reduceLeDiff,Nat.reduceEqDiff,Nat.reduceBEq,Int.reduceToNat,Int.reduceLT,Int.reduceLE,Int.reduceEq,Int.reduceNeg,Try.results17,RtO,itC,del,dem,gtp2,Heap.lt gtp2,gtq2,Heap.lt gtq2,dclm,dci,dci2,dci3,dci0,dcw,dcel,dcem,dce]); with_reducible rfl))) | ((with_reducible refine AW.cond_true ?_ ?_); · rfl) | ((with_reducible refine AW.cond_false ?_ ?_); · rfl) | simp (maxSteps := 3000000) (maxDischargeDepth := 12) only [push_cast,appendX,reduceIte,reduceCtorEq,Nat.reduceSub,Nat.reduceAdd,Nat.reduceMul,Nat.reduceLT,Nat.reduceLeDiff,Nat.reduceEqDiff,Nat.reduceBEq,Int.reduceToNat,Int.reduceLT,Int.reduceLE,Int.reduceEq,Int.reduceNeg,Try.results17,RtO,itC,del,dem,gtp2,Heap.lt gtp2,gtq2,Heap.lt gtq2,dclm,dci,dci2,dci3,dci0,dcw,dcel,dcem,dce])
        have hic : (((i + 1 : Nat)) : Int) = (i : Int) + 1 := by omega
        exact ⟨L.length + 1 - (i + 1), by omega, i + 1, rfl, hlt, by rw [List.take_succ_eq_append_getElem hlt, List.take_succ_eq_append_getElem hlm2, htk, he], rfl, by (simp only [push_cast, TellsL, tells_any, tells_refl, hic])⟩
      · have dce : (L[i] == M[i]) = false := by simpa using he
        repeat (first | (with_reducible refine AW.seq ?_) | (with_reducible refine AW.block ?_) | (with_reducible refine AW.skip ?_) | (with_reducible refine AW.ret ?_) | (with_reducible refine AW.exit ?_) | (with_reducible refine AW.reg hT ?_) | (with_reducible refine AW.drawn (id := 6) hT [0,1,2,3,4,5,6,7,8,9,10] [[],[0],[],[0,1,2],[0,1,2,3],[],[5],[],[5,6,7],[5,6,7,8],[0,1,2,3,4,5,6,7,8,9]] mix (by kernel_rfl) ?_) | ((with_reducible show DLeft _ _ _ _ (_ :: _) _ _ _ _); (with_reducible apply DLeft.step hT); (case hoi => ((simp only [List.getElem?_toArray,List.getElem?_cons_zero,List.getElem?_cons_succ]); with_reducible rfl)); (case hg => rfl); (case hk => rfl); (case hr => ((try simp (maxSteps := 3000000) (maxDischargeDepth := 12) only [push_cast,appendX,reduceIte,reduceCtorEq,Nat.reduceSub,Nat.reduceAdd,Nat.reduceMul,Nat.reduceLT,Nat.reduceLeDiff,Nat.reduceEqDiff,Nat.reduceBEq,Int.reduceToNat,Int.reduceLT,Int.reduceLE,Int.reduceEq,Int.reduceNeg,Try.results17,RtO,itC,del,dem,gtp2,Heap.lt gtp2,gtq2,Heap.lt gtq2,dclm,dci,dci2,dci3,dci0,dcw,dcel,dcem,dce]); with_reducible rfl))) | ((with_reducible refine AW.cond_true ?_ ?_); · rfl) | ((with_reducible refine AW.cond_false ?_ ?_); · rfl) | simp (maxSteps := 3000000) (maxDischargeDepth := 12) only [push_cast,appendX,reduceIte,reduceCtorEq,Nat.reduceSub,Nat.reduceAdd,Nat.reduceMul,Nat.reduceLT,Nat.reduceLeDiff,Nat.reduceEqDiff,Nat.reduceBEq,Int.reduceToNat,Int.reduceLT,Int.reduceLE,Int.reduceEq,Int.reduceNeg,Try.results17,RtO,itC,del,dem,gtp2,Heap.lt gtp2,gtq2,Heap.lt gtq2,dclm,dci,dci2,dci3,dci0,dcw,dcel,dcem,dce])
        refine ⟨x02, false, rfl, by simp; intro _ h; subst h; exact he rfl⟩
    · have dci : decide ((i : Int) < (L.length : Int)) = false := by simp; omega
      have hLM : L = M := by
        have e1 : L.take i = L := List.take_of_length_le (by omega)
        have e2 : M.take i = M := List.take_of_length_le (by omega)
        rw [e1, e2] at htk; exact htk
      obtain ⟨b, dnq, hbq⟩ := eqW x y
      have hiff := Fs.ext_iff' x y
      by_cases hA0 : x.cls = y.cls
      · have dcA0 : (x.cls == y.cls) = true := by simpa using hA0
        by_cases hA1 : x.a = y.a
        · have dcA1 : (x.a == y.a) = true := by simpa using hA1
          by_cases hA2 : x.b = y.b
          · have dcA2 : (x.b == y.b) = true := by simpa using hA2
            by_cases hA3 : x.c = y.c
            · have dcA3 : (x.c == y.c) = true := by simpa using hA3
              by_cases hA4 : x.u = y.u
              · have dcA4 : (x.u == y.u) = true := by simpa using hA4
                repeat (first | (with_reducible refine AW.seq ?_) | (with_reducible refine AW.block ?_) | (with_reducible refine AW.skip ?_) | (with_reducible refine AW.ret ?_) | (with_reducible refine AW.exit ?_) | (with_reducible refine AW.reg hT ?_) | ((with_reducible refine AW.cond_true ?_ ?_); · rfl) | ((with_reducible refine AW.cond_false ?_ ?_); · rfl) | simp (maxSteps := 3000000) (maxDischargeDepth := 12) only [push_cast,appendX,reduceIte,reduceCtorEq,Nat.reduceSub,Nat.reduceAdd,Nat.reduceMul,Nat.reduceLT,Nat.reduceLeDiff,Nat.reduceEqDiff,Nat.reduceBEq,Int.reduceToNat,Int.reduceLT,Int.reduceLE,Int.reduceEq,Int.reduceNeg,Try.results17,RtO,itC,del,dem,gtp2,Heap.lt gtp2,gtq2,Heap.lt gtq2,dclm,dci,↓dnq,dcA0,dcA1,dcA2,dcA3,dcA4])
                exact ⟨x02, _, rfl, by rw [hiff]; simp [*]⟩
              · have dcA4 : (x.u == y.u) = false := by simpa using hA4
                repeat (first | (with_reducible refine AW.seq ?_) | (with_reducible refine AW.block ?_) | (with_reducible refine AW.skip ?_) | (with_reducible refine AW.ret ?_) | (with_reducible refine AW.exit ?_) | (with_reducible refine AW.reg hT ?_) | ((with_reducible refine AW.cond_true ?_ ?_); · rfl) | ((with_reducible refine AW.cond_false ?_ ?_); · rfl) | simp (maxSteps := 3000000) (maxDischargeDepth := 12) only [push_cast,appendX,reduceIte,reduceCtorEq,Nat.reduceSub,Nat.reduceAdd,Nat.reduceMul,Nat.reduceLT,Nat.reduceLeDiff,Nat.reduceEqDiff,Nat.reduceBEq,Int.reduceToNat,Int.reduceLT,Int.reduceLE,Int.reduceEq,Int.reduceNeg,Try.results17,RtO,itC,del,dem,gtp2,Heap.lt gtp2,gtq2,Heap.lt gtq2,dclm,dci,↓dnq,dcA0,dcA1,dcA2,dcA3,dcA4])
                exact ⟨x02, _, rfl, by rw [hiff]; simp [*]⟩
            · have dcA3 : (x.c == y.c) = false := by simpa using hA3
              repeat (first | (with_reducible refine AW.seq ?_) | (with_reducible refine AW.block ?_) | (with_reducible refine AW.skip ?_) | (with_reducible refine AW.ret ?_) | (with_reducible refine AW.exit ?_) | (with_reducible refine AW.reg hT ?_) | ((with_reducible refine AW.cond_true ?_ ?_); · rfl) | ((with_reducible refine AW.cond_false ?_ ?_); · rfl) | simp (maxSteps := 3000000) (maxDischargeDepth := 12) only [push_cast,appendX,reduceIte,reduceCtorEq,Nat.reduceSub,Nat.reduceAdd,Nat.reduceMul,Nat.reduceLT,Nat.reduceLeDiff,Nat.reduceEqDiff,Nat.reduceBEq,Int.reduceToNat,Int.reduceLT,Int.reduceLE,Int.reduceEq,Int.reduceNeg,Try.results17,RtO,itC,del,dem,gtp2,Heap.lt gtp2,gtq2,Heap.lt gtq2,dclm,dci,↓dnq,dcA0,dcA1,dcA2,dcA3])
              exact ⟨x02, _, rfl, by rw [hiff]; simp [*]⟩
          · have dcA2 : (x.b == y.b) = false := by simpa using hA2
            repeat (first | (with_reducible refine AW.seq ?_) | (with_reducible refine AW.block ?_) | (with_reducible refine AW.skip ?_) | (with_reducible refine AW.ret ?_) | (with_reducible refine AW.exit ?_) | (with_reducible refine AW.reg hT ?_) | ((with_reducible refine AW.cond_true ?_ ?_); · rfl) | ((with_reducible refine AW.cond_false ?_ ?_); · rfl) | simp (maxSteps := 3000000) (maxDischargeDepth := 12) only [push_cast,appendX,reduceIte,reduceCtorEq,Nat.reduceSub,Nat.reduceAdd,Nat.reduceMul,Nat.reduceLT,Nat.reduceLeDiff,Nat.reduceEqDiff,Nat.reduceBEq,Int.reduceToNat,Int.reduceLT,Int.reduceLE,Int.reduceEq,Int.reduceNeg,Try.results17,RtO,itC,del,dem,gtp2,Heap.lt gtp2,gtq2,Heap.lt gtq2,dclm,dci,↓dnq,dcA0,dcA1,dcA2])
            exact ⟨x02, _, rfl, by rw [hiff]; simp [*]⟩
        · have dcA1 : (x.a == y.a) = false := by simpa using hA1
          repeat (first | (with_reducible refine AW.seq ?_) | (with_reducible refine AW.block ?_) | (with_reducible refine AW.skip ?_) | (with_reducible refine AW.ret ?_) | (with_reducible refine AW.exit ?_) | (with_reducible refine AW.reg hT ?_) | ((with_reducible refine AW.cond_true ?_ ?_); · rfl) | ((with_reducible refine AW.cond_false ?_ ?_); · rfl) | simp (maxSteps := 3000000) (maxDischargeDepth := 12) only [push_cast,appendX,reduceIte,reduceCtorEq,Nat.reduceSub,Nat.reduceAdd,Nat.reduceMul,Nat.reduceLT,Nat.reduceLeDiff,Nat.reduceEqDiff,Nat.reduceBEq,Int.reduceToNat,Int.reduceLT,Int.reduceLE,Int.reduceEq,Int.reduceNeg,Try.results17,RtO,itC,del,dem,gtp2,Heap.lt gtp2,gtq2,Heap.lt gtq2,dclm,dci,↓dnq,dcA0,dcA1])
          exact ⟨x02, _, rfl, by rw [hiff]; simp [*]⟩
      · have dcA0 : (x.cls == y.cls) = false := by simpa using hA0
        repeat (first | (with_reducible refine AW.seq ?_) | (with_reducible refine AW.block ?_) | (with_reducible refine AW.skip ?_) | (with_reducible refine AW.ret ?_) | (with_reducible refine AW.exit ?_) | (with_reducible refine AW.reg hT ?_) | ((with_reducible refine AW.cond_true ?_ ?_); · rfl) | ((with_reducible refine AW.cond_false ?_ ?_); · rfl) | simp (maxSteps := 3000000) (maxDischargeDepth := 12) only [push_cast,appendX,reduceIte,reduceCtorEq,Nat.reduceSub,Nat.reduceAdd,Nat.reduceMul,Nat.reduceLT,Nat.reduceLeDiff,Nat.reduceEqDiff,Nat.reduceBEq,Int.reduceToNat,Int.reduceLT,Int.reduceLE,Int.reduceEq,Int.reduceNeg,Try.results17,RtO,itC,del,dem,gtp2,Heap.lt gtp2,gtq2,Heap.lt gtq2,dclm,dci,↓dnq,dcA0])
        exact ⟨x02, _, rfl, by rw [hiff]; simp [*]⟩
  · have dclm : ((L.length : Int) == (M.length : Int)) = false := by simp; omega
    repeat (first | (with_reducible refine AW.seq ?_) | (with_reducible refine AW.block ?_) | (with_reducible refine AW.skip ?_) | (with_reducible refine AW.ret ?_) | (with_reducible refine AW.exit ?_) | (with_reducible refine AW.reg hT ?_) | ((with_reducible refine AW.cond_true ?_ ?_); · rfl) | ((with_reducible refine AW.cond_false ?_ ?_); · rfl) | simp (maxSteps := 3000000) (maxDischargeDepth := 12) only [push_cast,appendX,reduceIte,reduceCtorEq,Nat.reduceSub,Nat.reduceAdd,Nat.reduceMul,Nat.reduceLT,Nat.reduceLeDiff,Nat.reduceEqDiff,Nat.reduceBEq,Int.reduceToNat,Int.reduceLT,Int.reduceLE,Int.reduceEq,Int.reduceNeg,Try.results17,RtO,itC,del,dem,gtp2,Heap.lt gtp2,gtq2,Heap.lt gtq2,dclm])
    exact ⟨x02, false, rfl, by simp; intro _ h; exact hlm (congrArg _ h)⟩
theorem lours_ok (σ : Heap) (x : Fs) {d : DV} (dncl : cellsD d = [d]) (dnlf : Cm.leaf d = true) : ACalls Try.prog 18 [.agg (itC x d)] σ (fun y σ' => y = .agg (itC x d) ∧ Ext [] σ σ') := by
  refine ACalls.code hT Try.func18 rfl ?_
  simp only [Try.ntmps18, List.length_cons, List.length_nil, Nat.reduceSub, Nat.reduceAdd, List.replicate, List.cons_append, List.nil_append]
  repeat (first | (with_reducible refine AW.seq ?_) | (with_reducible refine AW.block ?_) | (with_reducible refine AW.skip ?_) | (with_reducible refine AW.ret ?_) | (with_reducible refine AW.exit ?_) | (with_reducible refine AW.reg hT ?_) | ((with_reducible refine AW.cond_true ?_ ?_); · rfl) | ((with_reducible refine AW.cond_false ?_ ?_); · rfl) | simp (maxSteps := 3000000) (maxDischargeDepth := 12) only [push_cast,appendX,reduceIte,reduceCtorEq,Nat.reduceSub,Nat.reduceAdd,Nat.reduceMul,Nat.reduceLT,Nat.reduceLeDiff,Nat.reduceEqDiff,Nat.reduceBEq,Int.reduceToNat,Int.reduceLT,Int.reduceLE,Int.reduceEq,Int.reduceNeg,Try.results18,itC,↓dncl,↓dnlf])
  repeat (first | exact Ext.refl _ _ | assumption | refine Ext.push ?_ _ | ((refine Ext.set ?_ ?_ _); rotate_left; · (simp (maxSteps := 3000000) (maxDischargeDepth := 12) only [push_cast, appendX, Nat.reduceAdd, Nat.reduceEqDiff, Nat.reduceLT, Nat.reduceLeDiff, reduceIte, reduceCtorEq, ↓dncl, ↓dnlf])) | ((refine Ext.then1 (by assumption) ?_ ?_); rotate_left; · (intro p hp _; first | assumption | exact List.mem_cons_of_mem _ hp | (cases hp; done) | (simp at hp; subst hp; simp))))
theorem ltheirs_ok (σ : Heap) (x : Fs) {d : DV} (dncl : cellsD d = [d]) (dnlf : Cm.leaf d = true) : ACalls Try.prog 10 [.agg (itC x d)] σ (fun y σ' => y = .agg (itC x d) ∧ Ext [] σ σ') := by
  refine ACalls.code hT Try.func10 rfl ?_
  simp only [Try.ntmps10, List.length_cons, List.length_nil, Nat.reduceSub, Nat.reduceAdd, List.replicate, List.cons_append, List.nil_append]
  repeat (first | (with_reducible refine AW.seq ?_) | (with_reducible refine AW.block ?_) | (with_reducible refine AW.skip ?_) | (with_reducible refine AW.ret ?_) | (with_reducible refine AW.exit ?_) | (with_reducible refine AW.reg hT ?_) | ((with_reducible refine AW.cond_true ?_ ?_); · rfl) | ((with_reducible refine AW.cond_false ?_ ?_); · rfl) | simp (maxSteps := 3000000) (maxDischargeDepth := 12) only [push_cast,appendX,reduceIte,reduceCtorEq,Nat.reduceSub,Nat.reduceAdd,Nat.reduceMul,Nat.reduceLT,Nat.reduceLeDiff,Nat.reduceEqDiff,Nat.reduceBEq,Int.reduceToNat,Int.reduceLT,Int.reduceLE,Int.reduceEq,Int.reduceNeg,Try.results10,itC,↓dncl,↓dnlf])
  repeat (first | exact Ext.refl _ _ | assumption | refine Ext.push ?_ _ | ((refine Ext.set ?_ ?_ _); rotate_left; · (simp (maxSteps := 3000000) (maxDischargeDepth := 12) only [push_cast, appendX, Nat.reduceAdd, Nat.reduceEqDiff, Nat.reduceLT, Nat.reduceLeDiff, reduceIte, reduceCtorEq, ↓dncl, ↓dnlf])) | ((refine Ext.then1 (by assumption) ?_ ?_); rotate_left; · (intro p hp _; first | assumption | exact List.mem_cons_of_mem _ hp | (cases hp; done) | (simp at hp; subst hp; simp))))
theorem oours_ok (σ : Heap) (c k : Int) {d : DV} (dncl : cellsD d = [d]) (dnlf : Cm.leaf d = true) : ACalls Try.prog 13 [.agg [.sc (.int .i64 c), .sc (.int .i64 k), d]] σ (fun y σ' => y = .agg [.sc (.int .i64 c), .sc (.int .i64 k), d] ∧ Ext [] σ σ') := by
  refine ACalls.code hT Try.func13 rfl ?_
  simp only [Try.ntmps13, List.length_cons, List.length_nil, Nat.reduceSub, Nat.reduceAdd, List.replicate, List.cons_append, List.nil_append]
  repeat (first | (with_reducible refine AW.seq ?_) | (with_reducible refine AW.block ?_) | (with_reducible refine AW.skip ?_) | (with_reducible refine AW.ret ?_) | (with_reducible refine AW.exit ?_) | (with_reducible refine AW.reg hT ?_) | ((with_reducible refine AW.cond_true ?_ ?_); · rfl) | ((with_reducible refine AW.cond_false ?_ ?_); · rfl) | simp (maxSteps := 3000000) (maxDischargeDepth := 12) only [push_cast,appendX,reduceIte,reduceCtorEq,Nat.reduceSub,Nat.reduceAdd,Nat.reduceMul,Nat.reduceLT,Nat.reduceLeDiff,Nat.reduceEqDiff,Nat.reduceBEq,Int.reduceToNat,Int.reduceLT,Int.reduceLE,Int.reduceEq,Int.reduceNeg,Try.results13,↓dncl,↓dnlf])
  repeat (first | exact Ext.refl _ _ | assumption | refine Ext.push ?_ _ | ((refine Ext.set ?_ ?_ _); rotate_left; · (simp (maxSteps := 3000000) (maxDischargeDepth := 12) only [push_cast, appendX, Nat.reduceAdd, Nat.reduceEqDiff, Nat.reduceLT, Nat.reduceLeDiff, reduceIte, reduceCtorEq, ↓dncl, ↓dnlf])) | ((refine Ext.then1 (by assumption) ?_ ?_); rotate_left; · (intro p hp _; first | assumption | exact List.mem_cons_of_mem _ hp | (cases hp; done) | (simp at hp; subst hp; simp))))
theorem otheirs_ok (σ : Heap) (c k : Int) {d : DV} (dncl : cellsD d = [d]) (dnlf : Cm.leaf d = true) : ACalls Try.prog 15 [.agg [.sc (.int .i64 c), .sc (.int .i64 k), d]] σ (fun y σ' => y = .agg [.sc (.int .i64 c), .sc (.int .i64 k), d] ∧ Ext [] σ σ') := by
  refine ACalls.code hT Try.func15 rfl ?_
  simp only [Try.ntmps15, List.length_cons, List.length_nil, Nat.reduceSub, Nat.reduceAdd, List.replicate, List.cons_append, List.nil_append]
  repeat (first | (with_reducible refine AW.seq ?_) | (with_reducible refine AW.block ?_) | (with_reducible refine AW.skip ?_) | (with_reducible refine AW.ret ?_) | (with_reducible refine AW.exit ?_) | (with_reducible refine AW.reg hT ?_) | ((with_reducible refine AW.cond_true ?_ ?_); · rfl) | ((with_reducible refine AW.cond_false ?_ ?_); · rfl) | simp (maxSteps := 3000000) (maxDischargeDepth := 12) only [push_cast,appendX,reduceIte,reduceCtorEq,Nat.reduceSub,Nat.reduceAdd,Nat.reduceMul,Nat.reduceLT,Nat.reduceLeDiff,Nat.reduceEqDiff,Nat.reduceBEq,Int.reduceToNat,Int.reduceLT,Int.reduceLE,Int.reduceEq,Int.reduceNeg,Try.results15,↓dncl,↓dnlf])
  repeat (first | exact Ext.refl _ _ | assumption | refine Ext.push ?_ _ | ((refine Ext.set ?_ ?_ _); rotate_left; · (simp (maxSteps := 3000000) (maxDischargeDepth := 12) only [push_cast, appendX, Nat.reduceAdd, Nat.reduceEqDiff, Nat.reduceLT, Nat.reduceLeDiff, reduceIte, reduceCtorEq, ↓dncl, ↓dnlf])) | ((refine Ext.then1 (by assumption) ?_ ?_); rotate_left; · (intro p hp _; first | assumption | exact List.mem_cons_of_mem _ hp | (cases hp; done) | (simp at hp; subst hp; simp))))
theorem u8_inv {n : Int} (h : 0 ≤ n ∧ n < 256) : ((UInt8.ofNat n.toNat).toNat : Int) = n := by
  simp [UInt8.toNat_ofNat']; omega
theorem str_eq {a b : List Int} (ha : Octs a) (hb : Octs b) : ((strOfNums a).toList == (strOfNums b).toList) = decide (a = b) := by
  rw [ByteArray.toList_eq, ByteArray.toList_eq, strOfNums_data, strOfNums_data]
  have inv : ∀ {l : List Int}, Octs l → (l.map fun n => UInt8.ofNat n.toNat).map (fun u => (u.toNat : Int)) = l := fun {l} hl => by
    rw [List.map_map]
    conv => rhs; rw [← List.map_id l]
    exact List.map_congr_left (fun n hn => u8_inv (hl n hn))
  by_cases h : a = b
  · subst h; simp
  · rw [decide_eq_false h]
    simp only [beq_eq_false_iff_ne, ne_eq]
    intro he
    have := congrArg (List.map fun u : UInt8 => (u.toNat : Int)) he
    rw [inv ha, inv hb] at this
    exact h this
/-- An object's cells. -/
def oC (c k : Int) (b : List Int) : List DV := [.sc (.int .i64 c), .sc (.int .i64 k), .imm (bytesD b)]
def osI (q : Prop) (x y : List DV) (σ0 : Heap) (m : Nat) (ts : List DV) (σ : Heap) : Prop := ∃ i, m = 2 - i ∧ i ≤ 1 ∧ (i = 1 → q) ∧ σ = σ0 ∧ TellsL ts (.imm [x] :: .imm [y] :: .any :: .any :: .sc (.bool false) :: .sc (.int .i64 i) :: .any :: .any :: .any :: .any :: .any :: .any :: .any :: .any :: .any :: .any :: .any :: .any :: .any :: .any :: .any :: .any :: .any :: .any :: .any :: .any :: .any :: .any :: .any :: .any :: .any :: .any :: .any :: .any :: .any :: .any :: .any :: .any :: .any :: .any :: .any :: .any :: .any :: .any :: .any :: .any :: .any :: .any :: .any :: .any :: .any :: .any :: .any :: .any :: .any :: .any :: [])
theorem osame_ok (σ : Heap) {c k c' k' : Int} {b b' : List Int} (ho : Octs b) (ho' : Octs b') : ACalls Try.prog 23 [.imm [oC c k b], .imm [oC c' k' b']] σ (fun r σ' => σ' = σ ∧ ∃ e : Bool, r = .sc (.bool e) ∧ (e = true ↔ c = c' ∧ k = k' ∧ b = b')) := by
  have dcs := str_eq ho ho'
  have dcw : IntKind.i64.wrap 1 = 1 := by decide
  refine ACalls.code hT Try.func23 rfl ?_
  simp only [Try.ntmps23, List.length_cons, List.length_nil, Nat.reduceSub, Nat.reduceAdd, List.replicate, List.cons_append, List.nil_append]
  repeat (first | (with_reducible refine AW.seq ?_) | (with_reducible refine AW.block ?_) | (with_reducible refine AW.skip ?_) | (with_reducible refine AW.ret ?_) | (with_reducible refine AW.exit ?_) | (with_reducible refine AW.reg hT ?_) | ((with_reducible refine AW.cond_true ?_ ?_); · rfl) | ((with_reducible refine AW.cond_false ?_ ?_); · rfl) | simp (maxSteps := 3000000) (maxDischargeDepth := 12) only [push_cast,appendX,reduceIte,reduceCtorEq,Nat.reduceSub,Nat.reduceAdd,Nat.reduceMul,Nat.reduceLT,Nat.reduceLeDiff,Nat.reduceEqDiff,Nat.reduceBEq,Int.reduceToNat,Int.reduceLT,Int.reduceLE,Int.reduceEq,Int.reduceNeg,Try.results23,oC,dcs,dcw])
  refine AW.loop (osI (c = c' ∧ k = k' ∧ b = b') (oC c k b) (oC c' k' b') σ) (m := 2) ⟨0, rfl, by omega, by simp, rfl, by (simp only [push_cast, TellsL, tells_any, tells_refl, oC])⟩ ?_
  rintro m ts σ3 ⟨i, rfl, hi, hq, rfl, hts⟩
  refine AW.told hts ?_
  clear hts
  rcases (by omega : i = 0 ∨ i = 1) with rfl | rfl
  · by_cases h1 : c = c'
    · have dc1 : (c == c') = true := by simpa using h1
      by_cases h2 : k = k'
      · have dc2 : (k == k') = true := by simpa using h2
        by_cases h3 : b = b'
        · have dc3 : decide (b = b') = true := decide_eq_true h3
          repeat (first | (with_reducible refine AW.seq ?_) | (with_reducible refine AW.block ?_) | (with_reducible refine AW.skip ?_) | (with_reducible refine AW.ret ?_) | (with_reducible refine AW.exit ?_) | (with_reducible refine AW.reg hT ?_) | (with_reducible refine AW.drawn (id := 6) hT [0,1,2,3,4,5,6,7,8,9,10,11,12,13,14,15,16,17,18,19,20,21,22,23,24,25,26,27,28,29,30,31,32,33,34,35,36,37,38] [[],[],[0,1],[0,1,2],[0,1,2,3],[],[],[5,6],[5,6,7],[5,6,7,8],[0,1,2,3,4,5,6,7,8,9],[0,1,2,3,4,5,6,7,8,9,10],[0,1,2,3,4,5,6,7,8,9,10,11],[0,1,2,3,4,5,6,7,8,9,10,11],[0,1,2,3,4,5,6,7,8,9,10,11,12,13],[0,1,2,3,4,5,6,7,8,9,10,11,12,13,14],[0,1,2,3,4,5,6,7,8,9,10,11,12,13,14,15],[0,1,2,3,4,5,6,7,8,9,10,11],[0,1,2,3,4,5,6,7,8,9,10,11],[0,1,2,3,4,5,6,7,8,9,10,11,17,18],[0,1,2,3,4,5,6,7,8,9,10,11,17,18,19],[0,1,2,3,4,5,6,7,8,9,10,11,17,18,19,20],[0,1,2,3,4,5,6,7,8,9,10,11,12,13,14,15,16,17,18,19,20,21],[0,1,2,3,4,5,6,7,8,9,10,11,12,13,14,15,16,17,18,19,20,21,22],[0,1,2,3,4,5,6,7,8,9,10,11,12,13,14,15,16,17,18,19,20,21,22,23],[0,1,2,3,4,5,6,7,8,9,10,11,12,13,14,15,16,17,18,19,20,21,22,23,24],[0,1,2,3,4,5,6,7,8,9,10,11,12,13,14,15,16,17,18,19,20,21,22,23,24],[0,1,2,3,4,5,6,7,8,9,10,11,12,13,14,15,16,17,18,19,20,21,22,23,24,25,26],[0,1,2,3,4,5,6,7,8,9,10,11,12,13,14,15,16,17,18,19,20,21,22,23,24,25,26,27],[0,1,2,3,4,5,6,7,8,9,10,11,12,13,14,15,16,17,18,19,20,21,22,23,24,25,26,27,28],[0,1,2,3,4,5,6,7,8,9,10,11,12,13,14,15,16,17,18,19,20,21,22,23,24,25,26,27,28,29],[0,1,2,3,4,5,6,7,8,9,10,11,12,13,14,15,16,17,18,19,20,21,22,23,24],[0,1,2,3,4,5,6,7,8,9,10,11,12,13,14,15,16,17,18,19,20,21,22,23,24],[0,1,2,3,4,5,6,7,8,9,10,11,12,13,14,15,16,17,18,19,20,21,22,23,24,31,32],[0,1,2,3,4,5,6,7,8,9,10,11,12,13,14,15,16,17,18,19,20,21,22,23,24,31,32,33],[0,1,2,3,4,5,6,7,8,9,10,11,12,13,14,15,16,17,18,19,20,21,22,23,24,31,32,33,34],[0,1,2,3,4,5,6,7,8,9,10,11,12,13,14,15,16,17,18,19,20,21,22,23,24,31,32,33,34,35],[0,1,2,3,4,5,6,7,8,9,10,11,12,13,14,15,16,17,18,19,20,21,22,23,24,25,26,27,28,29,30,31,32,33,34,35,36],[0,1,2,3,4,5,6,7,8,9,10,11,12,13,14,15,16,17,18,19,20,21,22,23,24,25,26,27,28,29,30,31,32,33,34,35,36,37]] mix (by kernel_rfl) ?_) | ((with_reducible show DLeft _ _ _ _ (_ :: _) _ _ _ _); (with_reducible apply DLeft.step hT); (case hoi => ((simp only [List.getElem?_toArray,List.getElem?_cons_zero,List.getElem?_cons_succ]); with_reducible rfl)); (case hg => rfl); (case hk => rfl); (case hr => ((try simp (maxSteps := 3000000) (maxDischargeDepth := 12) only [push_cast,appendX,reduceIte,reduceCtorEq,Nat.reduceSub,Nat.reduceAdd,Nat.reduceMul,Nat.reduceLT,Nat.reduceLeDiff,Nat.reduceEqDiff,Nat.reduceBEq,Int.reduceToNat,Int.reduceLT,Int.reduceLE,Int.reduceEq,Int.reduceNeg,Try.results23,oC,dcs,dcw,dc1,dc2,dc3]); with_reducible rfl))) | ((with_reducible refine AW.cond_true ?_ ?_); · rfl) | ((with_reducible refine AW.cond_false ?_ ?_); · rfl) | simp (maxSteps := 3000000) (maxDischargeDepth := 12) only [push_cast,appendX,reduceIte,reduceCtorEq,Nat.reduceSub,Nat.reduceAdd,Nat.reduceMul,Nat.reduceLT,Nat.reduceLeDiff,Nat.reduceEqDiff,Nat.reduceBEq,Int.reduceToNat,Int.reduceLT,Int.reduceLE,Int.reduceEq,Int.reduceNeg,Try.results23,oC,dcs,dcw,dc1,dc2,dc3])
          exact ⟨1, by omega, 1, rfl, by omega, fun _ => ⟨h1, h2, h3⟩, rfl, by (simp only [push_cast, TellsL, tells_any, tells_refl, oC])⟩
        · have dc3 : decide (b = b') = false := decide_eq_false h3
          repeat (first | (with_reducible refine AW.seq ?_) | (with_reducible refine AW.block ?_) | (with_reducible refine AW.skip ?_) | (with_reducible refine AW.ret ?_) | (with_reducible refine AW.exit ?_) | (with_reducible refine AW.reg hT ?_) | (with_reducible refine AW.drawn (id := 6) hT [0,1,2,3,4,5,6,7,8,9,10,11,12,13,14,15,16,17,18,19,20,21,22,23,24,25,26,27,28,29,30,31,32,33,34,35,36,37,38] [[],[],[0,1],[0,1,2],[0,1,2,3],[],[],[5,6],[5,6,7],[5,6,7,8],[0,1,2,3,4,5,6,7,8,9],[0,1,2,3,4,5,6,7,8,9,10],[0,1,2,3,4,5,6,7,8,9,10,11],[0,1,2,3,4,5,6,7,8,9,10,11],[0,1,2,3,4,5,6,7,8,9,10,11,12,13],[0,1,2,3,4,5,6,7,8,9,10,11,12,13,14],[0,1,2,3,4,5,6,7,8,9,10,11,12,13,14,15],[0,1,2,3,4,5,6,7,8,9,10,11],[0,1,2,3,4,5,6,7,8,9,10,11],[0,1,2,3,4,5,6,7,8,9,10,11,17,18],[0,1,2,3,4,5,6,7,8,9,10,11,17,18,19],[0,1,2,3,4,5,6,7,8,9,10,11,17,18,19,20],[0,1,2,3,4,5,6,7,8,9,10,11,12,13,14,15,16,17,18,19,20,21],[0,1,2,3,4,5,6,7,8,9,10,11,12,13,14,15,16,17,18,19,20,21,22],[0,1,2,3,4,5,6,7,8,9,10,11,12,13,14,15,16,17,18,19,20,21,22,23],[0,1,2,3,4,5,6,7,8,9,10,11,12,13,14,15,16,17,18,19,20,21,22,23,24],[0,1,2,3,4,5,6,7,8,9,10,11,12,13,14,15,16,17,18,19,20,21,22,23,24],[0,1,2,3,4,5,6,7,8,9,10,11,12,13,14,15,16,17,18,19,20,21,22,23,24,25,26],[0,1,2,3,4,5,6,7,8,9,10,11,12,13,14,15,16,17,18,19,20,21,22,23,24,25,26,27],[0,1,2,3,4,5,6,7,8,9,10,11,12,13,14,15,16,17,18,19,20,21,22,23,24,25,26,27,28],[0,1,2,3,4,5,6,7,8,9,10,11,12,13,14,15,16,17,18,19,20,21,22,23,24,25,26,27,28,29],[0,1,2,3,4,5,6,7,8,9,10,11,12,13,14,15,16,17,18,19,20,21,22,23,24],[0,1,2,3,4,5,6,7,8,9,10,11,12,13,14,15,16,17,18,19,20,21,22,23,24],[0,1,2,3,4,5,6,7,8,9,10,11,12,13,14,15,16,17,18,19,20,21,22,23,24,31,32],[0,1,2,3,4,5,6,7,8,9,10,11,12,13,14,15,16,17,18,19,20,21,22,23,24,31,32,33],[0,1,2,3,4,5,6,7,8,9,10,11,12,13,14,15,16,17,18,19,20,21,22,23,24,31,32,33,34],[0,1,2,3,4,5,6,7,8,9,10,11,12,13,14,15,16,17,18,19,20,21,22,23,24,31,32,33,34,35],[0,1,2,3,4,5,6,7,8,9,10,11,12,13,14,15,16,17,18,19,20,21,22,23,24,25,26,27,28,29,30,31,32,33,34,35,36],[0,1,2,3,4,5,6,7,8,9,10,11,12,13,14,15,16,17,18,19,20,21,22,23,24,25,26,27,28,29,30,31,32,33,34,35,36,37]] mix (by kernel_rfl) ?_) | ((with_reducible show DLeft _ _ _ _ (_ :: _) _ _ _ _); (with_reducible apply DLeft.step hT); (case hoi => ((simp only [List.getElem?_toArray,List.getElem?_cons_zero,List.getElem?_cons_succ]); with_reducible rfl)); (case hg => rfl); (case hk => rfl); (case hr => ((try simp (maxSteps := 3000000) (maxDischargeDepth := 12) only [push_cast,appendX,reduceIte,reduceCtorEq,Nat.reduceSub,Nat.reduceAdd,Nat.reduceMul,Nat.reduceLT,Nat.reduceLeDiff,Nat.reduceEqDiff,Nat.reduceBEq,Int.reduceToNat,Int.reduceLT,Int.reduceLE,Int.reduceEq,Int.reduceNeg,Try.results23,oC,dcs,dcw,dc1,dc2,dc3]); with_reducible rfl))) | ((with_reducible refine AW.cond_true ?_ ?_); · rfl) | ((with_reducible refine AW.cond_false ?_ ?_); · rfl) | simp (maxSteps := 3000000) (maxDischargeDepth := 12) only [push_cast,appendX,reduceIte,reduceCtorEq,Nat.reduceSub,Nat.reduceAdd,Nat.reduceMul,Nat.reduceLT,Nat.reduceLeDiff,Nat.reduceEqDiff,Nat.reduceBEq,Int.reduceToNat,Int.reduceLT,Int.reduceLE,Int.reduceEq,Int.reduceNeg,Try.results23,oC,dcs,dcw,dc1,dc2,dc3])
          exact ⟨false, rfl, by simp [h3]⟩
      · have dc2 : (k == k') = false := by simpa using h2
        repeat (first | (with_reducible refine AW.seq ?_) | (with_reducible refine AW.block ?_) | (with_reducible refine AW.skip ?_) | (with_reducible refine AW.ret ?_) | (with_reducible refine AW.exit ?_) | (with_reducible refine AW.reg hT ?_) | (with_reducible refine AW.drawn (id := 6) hT [0,1,2,3,4,5,6,7,8,9,10,11,12,13,14,15,16,17,18,19,20,21,22,23,24,25,26,27,28,29,30,31,32,33,34,35,36,37,38] [[],[],[0,1],[0,1,2],[0,1,2,3],[],[],[5,6],[5,6,7],[5,6,7,8],[0,1,2,3,4,5,6,7,8,9],[0,1,2,3,4,5,6,7,8,9,10],[0,1,2,3,4,5,6,7,8,9,10,11],[0,1,2,3,4,5,6,7,8,9,10,11],[0,1,2,3,4,5,6,7,8,9,10,11,12,13],[0,1,2,3,4,5,6,7,8,9,10,11,12,13,14],[0,1,2,3,4,5,6,7,8,9,10,11,12,13,14,15],[0,1,2,3,4,5,6,7,8,9,10,11],[0,1,2,3,4,5,6,7,8,9,10,11],[0,1,2,3,4,5,6,7,8,9,10,11,17,18],[0,1,2,3,4,5,6,7,8,9,10,11,17,18,19],[0,1,2,3,4,5,6,7,8,9,10,11,17,18,19,20],[0,1,2,3,4,5,6,7,8,9,10,11,12,13,14,15,16,17,18,19,20,21],[0,1,2,3,4,5,6,7,8,9,10,11,12,13,14,15,16,17,18,19,20,21,22],[0,1,2,3,4,5,6,7,8,9,10,11,12,13,14,15,16,17,18,19,20,21,22,23],[0,1,2,3,4,5,6,7,8,9,10,11,12,13,14,15,16,17,18,19,20,21,22,23,24],[0,1,2,3,4,5,6,7,8,9,10,11,12,13,14,15,16,17,18,19,20,21,22,23,24],[0,1,2,3,4,5,6,7,8,9,10,11,12,13,14,15,16,17,18,19,20,21,22,23,24,25,26],[0,1,2,3,4,5,6,7,8,9,10,11,12,13,14,15,16,17,18,19,20,21,22,23,24,25,26,27],[0,1,2,3,4,5,6,7,8,9,10,11,12,13,14,15,16,17,18,19,20,21,22,23,24,25,26,27,28],[0,1,2,3,4,5,6,7,8,9,10,11,12,13,14,15,16,17,18,19,20,21,22,23,24,25,26,27,28,29],[0,1,2,3,4,5,6,7,8,9,10,11,12,13,14,15,16,17,18,19,20,21,22,23,24],[0,1,2,3,4,5,6,7,8,9,10,11,12,13,14,15,16,17,18,19,20,21,22,23,24],[0,1,2,3,4,5,6,7,8,9,10,11,12,13,14,15,16,17,18,19,20,21,22,23,24,31,32],[0,1,2,3,4,5,6,7,8,9,10,11,12,13,14,15,16,17,18,19,20,21,22,23,24,31,32,33],[0,1,2,3,4,5,6,7,8,9,10,11,12,13,14,15,16,17,18,19,20,21,22,23,24,31,32,33,34],[0,1,2,3,4,5,6,7,8,9,10,11,12,13,14,15,16,17,18,19,20,21,22,23,24,31,32,33,34,35],[0,1,2,3,4,5,6,7,8,9,10,11,12,13,14,15,16,17,18,19,20,21,22,23,24,25,26,27,28,29,30,31,32,33,34,35,36],[0,1,2,3,4,5,6,7,8,9,10,11,12,13,14,15,16,17,18,19,20,21,22,23,24,25,26,27,28,29,30,31,32,33,34,35,36,37]] mix (by kernel_rfl) ?_) | ((with_reducible show DLeft _ _ _ _ (_ :: _) _ _ _ _); (with_reducible apply DLeft.step hT); (case hoi => ((simp only [List.getElem?_toArray,List.getElem?_cons_zero,List.getElem?_cons_succ]); with_reducible rfl)); (case hg => rfl); (case hk => rfl); (case hr => ((try simp (maxSteps := 3000000) (maxDischargeDepth := 12) only [push_cast,appendX,reduceIte,reduceCtorEq,Nat.reduceSub,Nat.reduceAdd,Nat.reduceMul,Nat.reduceLT,Nat.reduceLeDiff,Nat.reduceEqDiff,Nat.reduceBEq,Int.reduceToNat,Int.reduceLT,Int.reduceLE,Int.reduceEq,Int.reduceNeg,Try.results23,oC,dcs,dcw,dc1,dc2]); with_reducible rfl))) | ((with_reducible refine AW.cond_true ?_ ?_); · rfl) | ((with_reducible refine AW.cond_false ?_ ?_); · rfl) | simp (maxSteps := 3000000) (maxDischargeDepth := 12) only [push_cast,appendX,reduceIte,reduceCtorEq,Nat.reduceSub,Nat.reduceAdd,Nat.reduceMul,Nat.reduceLT,Nat.reduceLeDiff,Nat.reduceEqDiff,Nat.reduceBEq,Int.reduceToNat,Int.reduceLT,Int.reduceLE,Int.reduceEq,Int.reduceNeg,Try.results23,oC,dcs,dcw,dc1,dc2])
        simp [h2]
    · have dc1 : (c == c') = false := by simpa using h1
      repeat (first | (with_reducible refine AW.seq ?_) | (with_reducible refine AW.block ?_) | (with_reducible refine AW.skip ?_) | (with_reducible refine AW.ret ?_) | (with_reducible refine AW.exit ?_) | (with_reducible refine AW.reg hT ?_) | (with_reducible refine AW.drawn (id := 6) hT [0,1,2,3,4,5,6,7,8,9,10,11,12,13,14,15,16,17,18,19,20,21,22,23,24,25,26,27,28,29,30,31,32,33,34,35,36,37,38] [[],[],[0,1],[0,1,2],[0,1,2,3],[],[],[5,6],[5,6,7],[5,6,7,8],[0,1,2,3,4,5,6,7,8,9],[0,1,2,3,4,5,6,7,8,9,10],[0,1,2,3,4,5,6,7,8,9,10,11],[0,1,2,3,4,5,6,7,8,9,10,11],[0,1,2,3,4,5,6,7,8,9,10,11,12,13],[0,1,2,3,4,5,6,7,8,9,10,11,12,13,14],[0,1,2,3,4,5,6,7,8,9,10,11,12,13,14,15],[0,1,2,3,4,5,6,7,8,9,10,11],[0,1,2,3,4,5,6,7,8,9,10,11],[0,1,2,3,4,5,6,7,8,9,10,11,17,18],[0,1,2,3,4,5,6,7,8,9,10,11,17,18,19],[0,1,2,3,4,5,6,7,8,9,10,11,17,18,19,20],[0,1,2,3,4,5,6,7,8,9,10,11,12,13,14,15,16,17,18,19,20,21],[0,1,2,3,4,5,6,7,8,9,10,11,12,13,14,15,16,17,18,19,20,21,22],[0,1,2,3,4,5,6,7,8,9,10,11,12,13,14,15,16,17,18,19,20,21,22,23],[0,1,2,3,4,5,6,7,8,9,10,11,12,13,14,15,16,17,18,19,20,21,22,23,24],[0,1,2,3,4,5,6,7,8,9,10,11,12,13,14,15,16,17,18,19,20,21,22,23,24],[0,1,2,3,4,5,6,7,8,9,10,11,12,13,14,15,16,17,18,19,20,21,22,23,24,25,26],[0,1,2,3,4,5,6,7,8,9,10,11,12,13,14,15,16,17,18,19,20,21,22,23,24,25,26,27],[0,1,2,3,4,5,6,7,8,9,10,11,12,13,14,15,16,17,18,19,20,21,22,23,24,25,26,27,28],[0,1,2,3,4,5,6,7,8,9,10,11,12,13,14,15,16,17,18,19,20,21,22,23,24,25,26,27,28,29],[0,1,2,3,4,5,6,7,8,9,10,11,12,13,14,15,16,17,18,19,20,21,22,23,24],[0,1,2,3,4,5,6,7,8,9,10,11,12,13,14,15,16,17,18,19,20,21,22,23,24],[0,1,2,3,4,5,6,7,8,9,10,11,12,13,14,15,16,17,18,19,20,21,22,23,24,31,32],[0,1,2,3,4,5,6,7,8,9,10,11,12,13,14,15,16,17,18,19,20,21,22,23,24,31,32,33],[0,1,2,3,4,5,6,7,8,9,10,11,12,13,14,15,16,17,18,19,20,21,22,23,24,31,32,33,34],[0,1,2,3,4,5,6,7,8,9,10,11,12,13,14,15,16,17,18,19,20,21,22,23,24,31,32,33,34,35],[0,1,2,3,4,5,6,7,8,9,10,11,12,13,14,15,16,17,18,19,20,21,22,23,24,25,26,27,28,29,30,31,32,33,34,35,36],[0,1,2,3,4,5,6,7,8,9,10,11,12,13,14,15,16,17,18,19,20,21,22,23,24,25,26,27,28,29,30,31,32,33,34,35,36,37]] mix (by kernel_rfl) ?_) | ((with_reducible show DLeft _ _ _ _ (_ :: _) _ _ _ _); (with_reducible apply DLeft.step hT); (case hoi => ((simp only [List.getElem?_toArray,List.getElem?_cons_zero,List.getElem?_cons_succ]); with_reducible rfl)); (case hg => rfl); (case hk => rfl); (case hr => ((try simp (maxSteps := 3000000) (maxDischargeDepth := 12) only [push_cast,appendX,reduceIte,reduceCtorEq,Nat.reduceSub,Nat.reduceAdd,Nat.reduceMul,Nat.reduceLT,Nat.reduceLeDiff,Nat.reduceEqDiff,Nat.reduceBEq,Int.reduceToNat,Int.reduceLT,Int.reduceLE,Int.reduceEq,Int.reduceNeg,Try.results23,oC,dcs,dcw,dc1]); with_reducible rfl))) | ((with_reducible refine AW.cond_true ?_ ?_); · rfl) | ((with_reducible refine AW.cond_false ?_ ?_); · rfl) | simp (maxSteps := 3000000) (maxDischargeDepth := 12) only [push_cast,appendX,reduceIte,reduceCtorEq,Nat.reduceSub,Nat.reduceAdd,Nat.reduceMul,Nat.reduceLT,Nat.reduceLeDiff,Nat.reduceEqDiff,Nat.reduceBEq,Int.reduceToNat,Int.reduceLT,Int.reduceLE,Int.reduceEq,Int.reduceNeg,Try.results23,oC,dcs,dcw,dc1])
      simp [h1]
  · repeat (first | (with_reducible refine AW.seq ?_) | (with_reducible refine AW.block ?_) | (with_reducible refine AW.skip ?_) | (with_reducible refine AW.ret ?_) | (with_reducible refine AW.exit ?_) | (with_reducible refine AW.reg hT ?_) | ((with_reducible refine AW.cond_true ?_ ?_); · rfl) | ((with_reducible refine AW.cond_false ?_ ?_); · rfl) | simp (maxSteps := 3000000) (maxDischargeDepth := 12) only [push_cast,appendX,reduceIte,reduceCtorEq,Nat.reduceSub,Nat.reduceAdd,Nat.reduceMul,Nat.reduceLT,Nat.reduceLeDiff,Nat.reduceEqDiff,Nat.reduceBEq,Int.reduceToNat,Int.reduceLT,Int.reduceLE,Int.reduceEq,Int.reduceNeg,Try.results23,oC,dcs,dcw])
    exact ⟨true, rfl, by simp; exact hq rfl⟩
/-- Two rows of one element each, handed in and written no more. -/
theorem ACalls.hold2 {P : Program} {f : FuncId} {σ : Heap} {R : DV → Heap → Prop} {t1 t2 : Nat} {x y : List DV} {e1 e2 : TypeId} (h1 : σ.get t1 = some ⟨[x], e1, true⟩) (h2 : σ.get t2 = some ⟨[y], e2, true⟩) (hne : t1 ≠ t2) (h : ∀ σ', Ext [t1, t2] σ σ' → ACalls P f [.imm [x], .imm [y]] σ' R) : ACalls P f [.sl t1 0 1 1, .sl t2 0 1 1] σ R :=
  ACalls.holdArg (j := 0) (els := [x]) (e := e1) (Hold.row h1) rfl (fun σ1 x1 => ACalls.holdArg (j := 1) (els := [y]) (e := e2) (Hold.row (x1.get h2 (by simp [tOf]; exact Ne.symm hne))) rfl (fun σ2 x2 => h σ2 ((x1.mono (by simp [tOf])).then x2 (by simp [tOf]))))
theorem lsame_ok (σ : Heap) {c k c' k' : Int} {b b' : List Int} (ho : Octs b) (ho' : Octs b') : ACalls Try.prog 12 [.agg (oC c k b), .agg (oC c' k' b')] σ (fun r σ' => Ext [] σ σ' ∧ ∃ e : Bool, r = .sc (.bool e) ∧ (e = true ↔ c = c' ∧ k = k' ∧ b = b')) := by
  refine ACalls.code hT Try.func12 rfl ?_
  simp only [Try.ntmps12, List.length_cons, List.length_nil, Nat.reduceSub, Nat.reduceAdd, List.replicate, List.cons_append, List.nil_append]
  repeat (first | (with_reducible refine AW.seq ?_) | (with_reducible refine AW.block ?_) | (with_reducible refine AW.skip ?_) | (with_reducible refine AW.ret ?_) | (with_reducible refine AW.exit ?_) | (with_reducible refine AW.reg hT ?_) | ((with_reducible refine AW.cond_true ?_ ?_); · rfl) | ((with_reducible refine AW.cond_false ?_ ?_); · rfl) | simp (maxSteps := 3000000) (maxDischargeDepth := 12) only [push_cast,appendX,reduceIte,reduceCtorEq,Nat.reduceSub,Nat.reduceAdd,Nat.reduceMul,Nat.reduceLT,Nat.reduceLeDiff,Nat.reduceEqDiff,Nat.reduceBEq,Int.reduceToNat,Int.reduceLT,Int.reduceLE,Int.reduceEq,Int.reduceNeg,Try.results12,oC])
  refine AOpsL.call (first := []) (cap := []) hT rfl rfl rfl fn23 rfl (ACalls.mono (ACalls.hold2 (R := fun r σ' => Ext [] σ σ' ∧ ∃ e : Bool, r = .sc (.bool e) ∧ (e = true ↔ c = c' ∧ k = k' ∧ b = b')) (e1 := 38) (e2 := 38) (by simp (maxSteps := 3000000) (maxDischargeDepth := 12) only [push_cast, appendX, Nat.reduceAdd, Nat.reduceEqDiff, Nat.reduceLT, Nat.reduceLeDiff, reduceIte, reduceCtorEq, oC]) (by simp (maxSteps := 3000000) (maxDischargeDepth := 12) only [push_cast, appendX, Nat.reduceAdd, Nat.reduceEqDiff, Nat.reduceLT, Nat.reduceLeDiff, reduceIte, reduceCtorEq, oC]) (by omega) (fun σ1 x1 => (osame_ok σ1 ho ho').mono (fun r σ2 hh => ⟨by rw [hh.1]; exact Ext.then (((((Ext.refl [] σ).push _).push _).push _).push _) x1 (by intro p hp hl; simp at hp; omega), hh.2⟩))) ?_)
  rintro y σ1 ⟨xt1, e, rfl, he⟩
  repeat (first | (with_reducible refine AW.seq ?_) | (with_reducible refine AW.block ?_) | (with_reducible refine AW.skip ?_) | (with_reducible refine AW.ret ?_) | (with_reducible refine AW.exit ?_) | (with_reducible refine AW.reg hT ?_) | ((with_reducible refine AW.cond_true ?_ ?_); · rfl) | ((with_reducible refine AW.cond_false ?_ ?_); · rfl) | simp (maxSteps := 3000000) (maxDischargeDepth := 12) only [push_cast,appendX,reduceIte,reduceCtorEq,Nat.reduceSub,Nat.reduceAdd,Nat.reduceMul,Nat.reduceLT,Nat.reduceLeDiff,Nat.reduceEqDiff,Nat.reduceBEq,Int.reduceToNat,Int.reduceLT,Int.reduceLE,Int.reduceEq,Int.reduceNeg,Try.results12,oC,xt1.2,xt1.ltT,xt1.leT])
  exact ⟨xt1, e, rfl, he⟩
theorem alive_ok (σ : Heap) : ACalls Try.prog 8 [] σ (fun y σ' => y = .sc (.bool true) ∧ Ext [] σ σ') := by
  have m1 : mayI ⟨1, 3, 258, 1, 0, 0, 0, 0, 0, 0, 0⟩ [] := .inr ⟨.inl rfl, rfl, by decide, by simp [stepsOf, okS, Fs.get], by
    intro j hj hm
    simp [stepsOf, flds, Stp.fld] at hm
    rcases hj with rfl | rfl | rfl | rfl | rfl | rfl | rfl | rfl | rfl | rfl <;> first | rfl | (exfalso; omega)⟩
  have e1 : packA ⟨1, 3, 258, 1, 0, 0, 0, 0, 0, 0, 0⟩ [] = (1, 7, [10, 0, 0, 3, 0, 0, 1, 2, 10, 0, 0, 1], 0) := by rw [pack_may m1]; decide
  have m2 : mayI (zF 8) [] := .inr ⟨by simp [known, zF], rfl, by decide, by simp [stepsOf, okS, zF], by intro j _ _; exact get_zF _ _⟩
  have e2 : unpA 8 1 [0, 0, 0, 18] = (zF 8, [], 0) := unp_may m2
  have e3 : packA ⟨3, 16, 0, 0, 0, 0, 0, 0, 0, 0, 0⟩ [] = (0, 0, [], 2) := pack_no (by
    rintro (⟨h, _⟩ | ⟨_, _, _, h, _⟩)
    · simp [isL] at h
    · have := h (.node 1) (by simp [stepsOf])
      simp [okS, Fs.get] at this)
  have tnil : ∀ x : Fs, TellsL [DV.agg (itC x (.sc (.slice none 0 0)))] [DV.agg (itC x (.imm ([].map eI)))] := fun x => ⟨Tells.agg ⟨Tells.refl _, Tells.refl _, Tells.refl _, Tells.refl _, Tells.refl _, Tells.nil, Tells.refl _, Tells.refl _, Tells.refl _, Tells.refl _, Tells.refl _, Tells.refl _, trivial⟩, trivial⟩
  have p1 : ∀ σ : Heap, ACalls Try.prog 9 [.agg (itC ⟨1, 3, 258, 1, 0, 0, 0, 0, 0, 0, 0⟩ (.sc (.slice none 0 0)))] σ (fun y σ' => y = .tup [.agg [.sc (.int .i64 1), .sc (.int .i64 7), .imm (bytesD [10, 0, 0, 3, 0, 0, 1, 2, 10, 0, 0, 1])], .sc (.int .i64 0)] ∧ Ext [] σ σ') := fun σ => ACalls.told (tnil _) ((packI_ok σ (x := ⟨1, 3, 258, 1, 0, 0, 0, 0, 0, 0, 0⟩) (L := []) (by simp [Fs.Wf]) (by simp)).mono (fun y σ' hh => by rw [e1] at hh; exact hh))
  have p3 : ∀ σ : Heap, ACalls Try.prog 9 [.agg (itC ⟨3, 16, 0, 0, 0, 0, 0, 0, 0, 0, 0⟩ (.sc (.slice none 0 0)))] σ (fun y σ' => y = .tup [.agg [.sc (.int .i64 0), .sc (.int .i64 0), .imm (bytesD [])], .sc (.int .i64 2)] ∧ Ext [] σ σ') := fun σ => ACalls.told (tnil _) ((packI_ok σ (x := ⟨3, 16, 0, 0, 0, 0, 0, 0, 0, 0, 0⟩) (L := []) (by simp [Fs.Wf]) (by simp)).mono (fun y σ' hh => by rw [e3] at hh; exact hh))
  have dcstr : ((strOfNums [10, 0, 0, 3, 0, 0, 1, 2, 10, 0, 0, 1]).toList == ByteArray.toList { data := #[10, 0, 0, 3, 0, 0, 1, 2, 10, 0, 0, 1] }) = true := by
    rw [ByteArray.toList_eq, ByteArray.toList_eq]; decide
  refine ACalls.code hT Try.func8 rfl ?_
  simp only [Try.ntmps8, List.length_cons, List.length_nil, Nat.reduceSub, Nat.reduceAdd, List.replicate, List.cons_append, List.nil_append]
  repeat (first | (with_reducible refine AW.seq ?_) | (with_reducible refine AW.block ?_) | (with_reducible refine AW.skip ?_) | (with_reducible refine AW.ret ?_) | (with_reducible refine AW.exit ?_) | (with_reducible refine AW.reg hT ?_) | ((with_reducible refine AW.cond_true ?_ ?_); · rfl) | ((with_reducible refine AW.cond_false ?_ ?_); · rfl) | simp (maxSteps := 3000000) (maxDischargeDepth := 12) only [push_cast,appendX,reduceIte,reduceCtorEq,Nat.reduceSub,Nat.reduceAdd,Nat.reduceMul,Nat.reduceLT,Nat.reduceLeDiff,Nat.reduceEqDiff,Nat.reduceBEq,Int.reduceToNat,Int.reduceLT,Int.reduceLE,Int.reduceEq,Int.reduceNeg,Try.results8,dcstr])
  refine AOpsL.call (first := []) (cap := []) hT rfl rfl rfl fn9 rfl (ACalls.mono (p1 _) ?_)
  rintro y σ1 ⟨rfl, xt1⟩
  repeat (first | (with_reducible refine AW.seq ?_) | (with_reducible refine AW.block ?_) | (with_reducible refine AW.skip ?_) | (with_reducible refine AW.ret ?_) | (with_reducible refine AW.exit ?_) | (with_reducible refine AW.reg hT ?_) | ((with_reducible refine AW.cond_true ?_ ?_); · rfl) | ((with_reducible refine AW.cond_false ?_ ?_); · rfl) | simp (maxSteps := 3000000) (maxDischargeDepth := 12) only [push_cast,appendX,reduceIte,reduceCtorEq,Nat.reduceSub,Nat.reduceAdd,Nat.reduceMul,Nat.reduceLT,Nat.reduceLeDiff,Nat.reduceEqDiff,Nat.reduceBEq,Int.reduceToNat,Int.reduceLT,Int.reduceLE,Int.reduceEq,Int.reduceNeg,Try.results8,dcstr,xt1.2,xt1.ltT,xt1.leT])
  refine AOpsL.call (first := []) (cap := []) hT rfl rfl rfl fn14 rfl (ACalls.mono (unpackI_ok _ (b := [0, 0, 0, 18]) rfl rfl (Hold.src (e := 5) (Hold.row (els := bytesD [0, 0, 0, 18]) (by simp (maxSteps := 3000000) (maxDischargeDepth := 12) only [push_cast, appendX, Nat.reduceAdd, Nat.reduceEqDiff, Nat.reduceLT, Nat.reduceLeDiff, reduceIte, reduceCtorEq, bytesD, List.map_cons, List.map_nil, dcstr, xt1.2, xt1.ltT, xt1.leT]))) (by intro x hx; simp at hx; omega) (by decide) (by omega)) ?_)
  rw [e2]
  rintro y σ2 ⟨rfl, xt2⟩
  repeat (first | (with_reducible refine AW.seq ?_) | (with_reducible refine AW.block ?_) | (with_reducible refine AW.skip ?_) | (with_reducible refine AW.ret ?_) | (with_reducible refine AW.exit ?_) | (with_reducible refine AW.reg hT ?_) | ((with_reducible refine AW.cond_true ?_ ?_); · rfl) | ((with_reducible refine AW.cond_false ?_ ?_); · rfl) | simp (maxSteps := 3000000) (maxDischargeDepth := 12) only [push_cast,appendX,reduceIte,reduceCtorEq,Nat.reduceSub,Nat.reduceAdd,Nat.reduceMul,Nat.reduceLT,Nat.reduceLeDiff,Nat.reduceEqDiff,Nat.reduceBEq,Int.reduceToNat,Int.reduceLT,Int.reduceLE,Int.reduceEq,Int.reduceNeg,Try.results8,itC,zF,dcstr,xt1.2,xt1.ltT,xt1.leT,xt2.2,xt2.ltT,xt2.leT])
  refine AOpsL.call (first := []) (cap := []) hT rfl rfl rfl fn9 rfl (ACalls.mono (p3 _) ?_)
  rintro y σ3 ⟨rfl, xt3⟩
  repeat (first | (with_reducible refine AW.seq ?_) | (with_reducible refine AW.block ?_) | (with_reducible refine AW.skip ?_) | (with_reducible refine AW.ret ?_) | (with_reducible refine AW.exit ?_) | (with_reducible refine AW.reg hT ?_) | ((with_reducible refine AW.cond_true ?_ ?_); · rfl) | ((with_reducible refine AW.cond_false ?_ ?_); · rfl) | simp (maxSteps := 3000000) (maxDischargeDepth := 12) only [push_cast,appendX,reduceIte,reduceCtorEq,Nat.reduceSub,Nat.reduceAdd,Nat.reduceMul,Nat.reduceLT,Nat.reduceLeDiff,Nat.reduceEqDiff,Nat.reduceBEq,Int.reduceToNat,Int.reduceLT,Int.reduceLE,Int.reduceEq,Int.reduceNeg,Try.results8,itC,zF,dcstr,xt1.2,xt1.ltT,xt1.leT,xt2.2,xt2.ltT,xt2.leT,xt3.2,xt3.ltT,xt3.leT])
  repeat (first | exact Ext.refl _ _ | assumption | refine Ext.push ?_ _ | ((refine Ext.set ?_ ?_ _); rotate_left; · (simp (maxSteps := 3000000) (maxDischargeDepth := 12) only [push_cast, appendX, Nat.reduceAdd, Nat.reduceEqDiff, Nat.reduceLT, Nat.reduceLeDiff, reduceIte, reduceCtorEq, dcstr, xt1.2, xt1.ltT, xt1.leT, xt2.2, xt2.ltT, xt2.leT, xt3.2, xt3.ltT, xt3.leT])) | ((refine Ext.then1 (by assumption) ?_ ?_); rotate_left; · (intro p hp _; first | assumption | exact List.mem_cons_of_mem _ hp | (cases hp; done) | (simp at hp; subst hp; simp))))
abbrev It := S28
abbrev eR := e28
abbrev wR := w28
def fsR (x : It) : Fs := ⟨x.f0, x.f1, x.f2, x.f3, x.f4, x.f6.f0, x.f6.f1, x.f6.f2, x.f6.f3, x.f6.f4, x.f6.f5⟩
theorem eR_eq (x : It) : eR x = itC (fsR x) (.imm (x.f5.map eI)) := rfl
theorem wR_wf {x : It} (h : wR x) : (fsR x).Wf := by
  obtain ⟨h0, h1, h2, h3, h4, h5, h6, h7, h8, h9, h10, h11⟩ := h
  refine ⟨wf_i64 h0, wf_i64 h1, wf_i64 h2, wf_i64 h3, wf_u64 h4, wf_u64 h6, wf_i64 h7, wf_i64 h8, ?_, ?_, ?_⟩
  · have := wf_u32 h9; simp only [fsR]; omega
  · have := wf_u32 h10; simp only [fsR]; omega
  · have := wf_u32 h11; simp only [fsR]; omega
theorem itC_len (x : Fs) (d : DV) : (itC x d).length = 12 := rfl
theorem itC_take (x : Fs) (d : DV) : List.take 12 (itC x d) = itC x d := rfl
theorem itC_d5 (x : Fs) (d : DV) : List.drop 5 (itC x d) = d :: itPost x := rfl
theorem itC_leaf (x : Fs) (d : DV) : (itC x d).all Cm.leaf = Cm.leaf d := by simp [itC, List.all, Cm.leaf]
/-- What Pack answers. -/
theorem pack_cases (x : Fs) (L : List Int) : ∃ c k b e, packA x L = (c, k, b, e) ∧ Octs b ∧ b.length ≤ 1000000 ∧ ((e = 0 ∧ mayI x L ∧ c = x.cls ∧ k = kindI x.cls ∧ b = bodyI x L) ∨ (e = 2 ∧ ¬ mayI x L ∧ c = 0 ∧ k = 0 ∧ b = [])) := by
  by_cases h : mayI x L
  · refine ⟨_, _, _, _, pack_may h, bodyI_octs x L, ?_, .inl ⟨rfl, h, rfl, rfl, rfl⟩⟩
    have e := layI_may h
    rcases h with ⟨h1, h2, h3, h4⟩ | ⟨h1, h2, h3, h4, h5⟩
    · simp only [bodyI, h1, if_true]; rw [hops_len]; omega
    · have hn := known_notL h1
      simp only [bodyI, hn, if_false]
      rcases h1 with h | h | h | h | h | h | h | h | h | h | h | h | h <;> (rw [h]; simp [stepsOf, btsL, bts, digits_length])
  · exact ⟨0, 0, [], 2, pack_no h, (by intro d hd; cases hd), by simp, .inr ⟨rfl, h, rfl, rfl, rfl⟩⟩
theorem packE_ok (σ : Heap) {x : Fs} {L : List Int} {c k e : Int} {b : List Int} (hw : x.Wf) (hL : L.length ≤ 1000000) (h : packA x L = (c, k, b, e)) : ACalls Try.prog 9 [.agg (itC x (.imm (L.map eI)))] σ (fun y σ' => y = .tup [.agg (oC c k b), .sc (.int .i64 e)] ∧ Ext [] σ σ') := by
  have := packI_ok σ hw hL
  rw [h] at this; exact this
/-- Unlike items have unlike bodies. -/
theorem body_inj {x y : Fs} {L M : List Int} (hx : mayI x L) (hy : mayI y M) : (x.cls = y.cls ∧ kindI x.cls = kindI y.cls ∧ bodyI x L = bodyI y M) ↔ (x = y ∧ L = M) := by
  constructor
  · rintro ⟨h1, h2, h3⟩
    have e1 := unp_may hx
    have e2 := unp_may hy
    rw [h1, h3] at e1
    rw [e1] at e2
    injection e2 with e3 e4
    injection e4 with e5 e6
    exact ⟨e3, e5⟩
  · rintro ⟨rfl, rfl⟩
    exact ⟨rfl, rfl, rfl⟩
abbrev Ob := S38
abbrev eO := e38
abbrev wO := w38
theorem eO_eq (o : Ob) : eO o = oC o.f0 o.f1 o.f2 := rfl
theorem wO_octs {o : Ob} (h : wO o) : Octs o.f2 := fun d hd => by
  have := wf_u8 (h.2.2.2 d hd)
  omega
theorem wO_cls {o : Ob} (h : wO o) : -9223372036854775808 ≤ o.f0 ∧ o.f0 ≤ 9223372036854775807 := wf_i64 h.1
theorem unpackE_ok (σ : Heap) {c k e : Int} {b : List Int} {w : Fs} {M : List Int} (ho : Octs b) (hb : b.length ≤ 1000000) (hc : -9223372036854775808 ≤ c ∧ c ≤ 9223372036854775807) (h : unpA c k b = (w, M, e)) :
    ACalls Try.prog 14 [.agg (oC c k b)] σ (fun y σ' => y = .tup [.agg (itC w (.imm (M.map eI))), .sc (.int .i64 e)] ∧ Ext [] σ σ') := by
  have := unpackI_ok σ (k := k) (d := .imm (bytesD b)) rfl rfl (Src.imm σ (bytesD b)) ho hb hc
  rw [h] at this; exact this
/-- What Unpack answers. -/
theorem unp_cases (c k : Int) {b : List Int} (ho : Octs b) : ∃ w M e, unpA c k b = (w, M, e) ∧ ((e = 0 ∧ mayI w M ∧ w.cls = c ∧ kindI c = k ∧ bodyI w M = b) ∨ (e = 5 ∧ w = zF 0 ∧ M = [])) := by
  by_cases h : (unpA c k b).2.2 = 0
  · exact ⟨_, _, _, rfl, .inl ⟨h, unp_back ho h⟩⟩
  · exact ⟨_, _, _, unp_no h, .inr ⟨rfl, rfl, rfl⟩⟩
theorem may_wf {x : Fs} {L : List Int} (hc : -9223372036854775808 ≤ x.cls ∧ x.cls ≤ 9223372036854775807) (h : mayI x L) : x.Wf := by
  rcases h with ⟨h1, h2, h3, h4⟩ | ⟨h1, h2, h3, h4, h5⟩
  · rw [h2]; exact zF_wf _ hc
  · have key : ∀ j, isF j → (0 ≤ x.get j ∧ (j = 4 → x.get j ≤ 18446744073709551615) ∧ (j ≠ 4 → x.get j < 4294967296)) := fun j hj => by
      by_cases hm : j ∈ flds (stepsOf x.cls)
      · simp only [flds, List.mem_flatMap] at hm
        obtain ⟨a, ha, hja⟩ := hm
        have hs := (steps_sound h1).2 a ha
        have hk := h4 a ha
        cases a with
        | fix n u => simp [Stp.fld] at hja
        | node i =>
          simp [Stp.fld] at hja; subst hja
          have := hk.1; have := hk.2
          exact ⟨by omega, by omega, by omega⟩
        | int n i top =>
          simp [Stp.fld] at hja; subst hja
          have h7 := hs.2.2.1
          have h8 : (256 : Int) ^ n ≤ 256 ^ 4 := by
            have : (256 : Nat) ^ n ≤ 256 ^ 4 := Nat.pow_le_pow_right (by omega) hs.2.1
            exact_mod_cast this
          have h9 : (256 : Int) ^ 4 = 4294967296 := by decide
          have := hk.1; have := hk.2
          exact ⟨by omega, by omega, by omega⟩
        | raw n i =>
          simp [Stp.fld] at hja; subst hja
          have e4 : (256 : Int) ^ 4 = 4294967296 := by decide
          have e8 : (256 : Int) ^ 8 = 18446744073709551616 := by decide
          have h8 : n ≤ 8 := hs.2.1
          have hp : (256 : Int) ^ n ≤ 256 ^ 8 := by
            have : (256 : Nat) ^ n ≤ 256 ^ 8 := Nat.pow_le_pow_right (by omega) h8
            exact_mod_cast this
          have hk1 := hk.1
          have hk2 := hk.2
          refine ⟨hk1, fun _ => by omega, fun hj4 => ?_⟩
          have hn4 : n = 4 := by
            rcases h1 with hc | hc | hc | hc | hc | hc | hc | hc | hc | hc | hc | hc | hc <;> rw [hc] at ha <;> simp [stepsOf] at ha <;> omega
          rw [hn4, e4] at hk2
          exact hk2
      · rw [h5 j hj hm]; exact ⟨by omega, by omega, by omega⟩
    have k1 := key 1 (by simp [isF])
    have k2 := key 2 (by simp [isF])
    have k3 := key 3 (by simp [isF])
    have k4 := (key 4 (by simp [isF])).1
    have k4' := (key 4 (by simp [isF])).2.1 rfl
    have k6 := key 6 (by simp [isF])
    have k7 := key 7 (by simp [isF])
    have k8 := key 8 (by simp [isF])
    have k9 := key 9 (by simp [isF])
    have k10 := key 10 (by simp [isF])
    have k11 := key 11 (by simp [isF])
    simp only [Fs.get] at k1 k2 k3 k4 k4' k6 k7 k8 k9 k10 k11
    exact ⟨hc, by omega, by omega, by omega, by omega, by omega, by omega, by omega, by omega, by omega, by omega⟩
theorem may_len {x : Fs} {L : List Int} (h : mayI x L) : L.length ≤ 16 := by
  rcases h with ⟨_, _, h3, _⟩ | ⟨_, h2, _⟩
  · exact h3
  · rw [h2]; simp
theorem body_len4 {x : Fs} {L : List Int} (h : mayI x L) : (bodyI x L).length % 4 = 0 := by
  rcases h with ⟨h1, h2, h3, h4⟩ | ⟨h1, h2, h3, h4, h5⟩
  · simp only [bodyI, h1, if_true]; rw [hops_len]; omega
  · have hn := known_notL h1
    simp only [bodyI, hn, if_false]
    rcases h1 with h | h | h | h | h | h | h | h | h | h | h | h | h <;> (rw [h]; simp [stepsOf, btsL, bts, digits_length])
end Go.Proofs.Ytdibcgcildcjnaa.Cm
