/- The document's package body: an item's bytes; Pack. The law BodyPacks. -/
import Derived.Test.YtdibcgcildcjnaaBodyYs
namespace Go.Proofs.Ytdibcgcildcjnaa.Cm
open Go.RowKit
set_option linter.unusedVariables false
set_option linter.unusedSimpArgs false
set_option maxRecDepth 20000
set_option maxHeartbeats 8000000
/-- Pieces in a row that was just made, laid. -/
theorem laidP {σ0 σ : Heap} (ps : List (Nat × Int)) {n : Nat} (hx : Ext [] σ0 σ) (hp : ∀ p ∈ ps, pOk p) (hl : ps.length ≤ 1000) (hn : n = (ps.map eP).length) : ACalls Try.prog 38 [.sl σ.n 0 n n] (σ.push ⟨ps.map eP, 91, true⟩) (fun y σ' => y = .imm (bytesD (ps.flatMap pD)) ∧ Ext [] σ0 σ') := by
  subst hn
  refine ACalls.holdArg (j := 0) (els := ps.map eP) (e := 91) (Hold.row Heap.get_push) rfl (fun σ1 x1 => (laid_ok σ1 ps hp hl).mono (fun y σ2 hh => ⟨hh.1, ?_⟩))
  refine ((hx.push _).then x1 (fun q hq hlq => ?_)).trans hh.2
  simp [tOf] at hq
  have := hx.1
  omega
section
variable {x : Fs} {L : List Int}
theorem rbytes_1 (σ : Heap) (dcc : x.cls = 1) (hw : x.Wf) (hm : mayI x L) : ACalls Try.prog 22 [.agg (itC x (.imm (L.map eI)))] σ (fun y σ' => y = .tup [.imm (bytesD (bodyI x L)), .sc (.int .i64 7)] ∧ Ext [] σ σ') := by
  have hmm := (may_1 dcc hw).1 hm
  obtain ⟨hwc, hwa, hwb, hwcc, hwu, hwbw, hwsu, hwho, hwan, hwal, hwno⟩ := hw
  have hps : ∀ p ∈ ([(4, 167772160 + x.a), (2, 0), (2, x.b), (4, 167772160 + x.c)] : List (Nat × Int)), pOk p := by
    simp [pOk] <;> omega
  have hbd : bodyI x L = ([(4, 167772160 + x.a), (2, 0), (2, x.b), (4, 167772160 + x.c)] : List (Nat × Int)).flatMap pD := by
    simp [bodyI, isL, dcc, stepsOf, btsL, bts, pD, Fs.get]
  rw [hbd]
  refine ACalls.code hT Try.func22 rfl ?_
  simp only [Try.ntmps22, List.length_cons, List.length_nil, Nat.reduceSub, Nat.reduceAdd, List.replicate, List.cons_append, List.nil_append]
  have x0 : Ext [] σ σ := Ext.refl _ _
  repeat ((fail_if_success (with_reducible refine AW.at1 (id := 1) ?_)); (fail_if_success (with_reducible refine AW.at2 (id := 1) ?_)); first | (with_reducible first | refine AW.seq ?_ | refine AW.block ?_ | refine AW.skip ?_ | refine AW.ret ?_ | refine AW.exit ?_ | refine AW.reg hT ?_) | ((with_reducible refine AW.cond_true ?_ ?_); · rfl) | ((with_reducible refine AW.cond_false ?_ ?_); · rfl) | simp (maxSteps := 3000000) (maxDischargeDepth := 12) only [seval,push_cast,appendX,Try.results22,itC,dcc])
  refine AW.name (fun σ1 hσ1 => ?_)
  have gtx1 : σ1.get σ.n = some (RtO x (.imm (L.map eI))) := by subst hσ1; simp (maxSteps := 3000000) (maxDischargeDepth := 12) only [push_cast, appendX, Nat.reduceAdd, Nat.reduceEqDiff, Nat.reduceLT, Nat.reduceLeDiff, reduceIte, reduceCtorEq, RtO, itC, dcc]
  have x01 : Ext [] σ σ1 := by subst hσ1; repeat (first | exact Ext.refl _ _ | assumption | refine Ext.push ?_ _ | ((refine Ext.set ?_ ?_ _); rotate_left; · (simp (maxSteps := 3000000) (maxDischargeDepth := 12) only [push_cast, appendX, Nat.reduceAdd, Nat.reduceEqDiff, Nat.reduceLT, Nat.reduceLeDiff, reduceIte, reduceCtorEq, dcc, gtx1, Heap.lt gtx1])) | ((refine Ext.then1 (by assumption) ?_ ?_); rotate_left; · (intro p hp _; first | assumption | exact List.mem_cons_of_mem _ hp | (cases hp; done) | (simp at hp; subst hp; simp))))
  clear hσ1
  generalize σ.n = p at gtx1 ⊢
  have gtx1 := gtx1
  repeat (first | (with_reducible first | refine AW.seq ?_ | refine AW.block ?_ | refine AW.skip ?_ | refine AW.ret ?_ | refine AW.exit ?_ | refine AW.reg hT ?_) | (with_reducible refine AW.drawn (id := 3) hT [0,1,4,5,7,8,2,3,6,9,10,11,12,13] [[],[0],[0,1],[0,1,2],[],[4],[0,1,2,3,4,5],[],[7],[0,1,2,3,4,5,6,7,8],[0,1,2,3,4,5,6,7,8,9],[0,1,2,3,4,5,6,7,8,9,10],[0,1,2,3,4,5,6,7,8,9,10,11],[0,1,2,3,4,5,6,7,8,9,10,11,12]] mix (by kernel_rfl) ?_) | ((with_reducible show DLeft _ _ _ _ (_ :: _) _ _ _ _); (with_reducible apply DLeft.step hT); (case hoi => ((simp only [List.getElem?_toArray,List.getElem?_cons_zero,List.getElem?_cons_succ]); with_reducible rfl)); (case hg => rfl); (case hk => rfl); (case hr => ((try simp (maxSteps := 3000000) (maxDischargeDepth := 12) only [seval,push_cast,appendX,Try.results22,RtO,itC,eP,dcc,gtx1,Heap.lt gtx1]); with_reducible rfl))) | ((with_reducible refine AW.cond_true ?_ ?_); · rfl) | ((with_reducible refine AW.cond_false ?_ ?_); · rfl) | simp (maxSteps := 3000000) (maxDischargeDepth := 12) only [seval,push_cast,appendX,Try.results22,RtO,itC,eP,dcc,gtx1,Heap.lt gtx1])
  ((apply DLeft.call (f := 39) (first := []) (cap := [])); (case hoi => ((simp only [List.getElem?_toArray, List.getElem?_cons_zero, List.getElem?_cons_succ]); with_reducible rfl)); (case hg => rfl); (case ho => rfl); (case hc => rfl); (case hf => exact fn39); (case has => rfl)); refine ACalls.mono (raddr_ok _ x.a (by omega) (by omega)) ?_
  rintro y σ2 ⟨rfl, xt2⟩
  have gty2 := xt2.get gtx1 (by simp)
  have x02 := x01.trans xt2
  clear gtx1 xt2
  repeat (first | (with_reducible first | refine AW.seq ?_ | refine AW.block ?_ | refine AW.skip ?_ | refine AW.ret ?_ | refine AW.exit ?_ | refine AW.reg hT ?_) | (with_reducible refine AW.drawn (id := 3) hT [0,1,4,5,7,8,2,3,6,9,10,11,12,13] [[],[0],[0,1],[0,1,2],[],[4],[0,1,2,3,4,5],[],[7],[0,1,2,3,4,5,6,7,8],[0,1,2,3,4,5,6,7,8,9],[0,1,2,3,4,5,6,7,8,9,10],[0,1,2,3,4,5,6,7,8,9,10,11],[0,1,2,3,4,5,6,7,8,9,10,11,12]] mix (by kernel_rfl) ?_) | ((with_reducible show DLeft _ _ _ _ (_ :: _) _ _ _ _); (with_reducible apply DLeft.step hT); (case hoi => ((simp only [List.getElem?_toArray,List.getElem?_cons_zero,List.getElem?_cons_succ]); with_reducible rfl)); (case hg => rfl); (case hk => rfl); (case hr => ((try simp (maxSteps := 3000000) (maxDischargeDepth := 12) only [seval,push_cast,appendX,Try.results22,RtO,itC,eP,dcc,gty2,Heap.lt gty2]); with_reducible rfl))) | ((with_reducible refine AW.cond_true ?_ ?_); · rfl) | ((with_reducible refine AW.cond_false ?_ ?_); · rfl) | simp (maxSteps := 3000000) (maxDischargeDepth := 12) only [seval,push_cast,appendX,Try.results22,RtO,itC,eP,dcc,gty2,Heap.lt gty2])
  ((apply DLeft.call (f := 40) (first := []) (cap := [])); (case hoi => ((simp only [List.getElem?_toArray, List.getElem?_cons_zero, List.getElem?_cons_succ]); with_reducible rfl)); (case hg => rfl); (case ho => rfl); (case hc => rfl); (case hf => exact fn40); (case has => rfl)); refine ACalls.mono (rnum_ok _ 2 0 (by omega) (by omega)) ?_
  rintro y σ3 ⟨rfl, xt3⟩
  have gty3 := xt3.get gty2 (by simp)
  have x03 := x02.trans xt3
  clear gty2 xt3
  repeat (first | (with_reducible first | refine AW.seq ?_ | refine AW.block ?_ | refine AW.skip ?_ | refine AW.ret ?_ | refine AW.exit ?_ | refine AW.reg hT ?_) | (with_reducible refine AW.drawn (id := 3) hT [0,1,4,5,7,8,2,3,6,9,10,11,12,13] [[],[0],[0,1],[0,1,2],[],[4],[0,1,2,3,4,5],[],[7],[0,1,2,3,4,5,6,7,8],[0,1,2,3,4,5,6,7,8,9],[0,1,2,3,4,5,6,7,8,9,10],[0,1,2,3,4,5,6,7,8,9,10,11],[0,1,2,3,4,5,6,7,8,9,10,11,12]] mix (by kernel_rfl) ?_) | ((with_reducible show DLeft _ _ _ _ (_ :: _) _ _ _ _); (with_reducible apply DLeft.step hT); (case hoi => ((simp only [List.getElem?_toArray,List.getElem?_cons_zero,List.getElem?_cons_succ]); with_reducible rfl)); (case hg => rfl); (case hk => rfl); (case hr => ((try simp (maxSteps := 3000000) (maxDischargeDepth := 12) only [seval,push_cast,appendX,Try.results22,RtO,itC,eP,dcc,gty3,Heap.lt gty3]); with_reducible rfl))) | ((with_reducible refine AW.cond_true ?_ ?_); · rfl) | ((with_reducible refine AW.cond_false ?_ ?_); · rfl) | simp (maxSteps := 3000000) (maxDischargeDepth := 12) only [seval,push_cast,appendX,Try.results22,RtO,itC,eP,dcc,gty3,Heap.lt gty3])
  ((apply DLeft.call (f := 40) (first := []) (cap := [])); (case hoi => ((simp only [List.getElem?_toArray, List.getElem?_cons_zero, List.getElem?_cons_succ]); with_reducible rfl)); (case hg => rfl); (case ho => rfl); (case hc => rfl); (case hf => exact fn40); (case has => rfl)); refine ACalls.mono (rnum_ok _ 2 x.b (by omega) (by omega)) ?_
  rintro y σ4 ⟨rfl, xt4⟩
  have gty4 := xt4.get gty3 (by simp)
  have x04 := x03.trans xt4
  clear gty3 xt4
  repeat (first | (with_reducible first | refine AW.seq ?_ | refine AW.block ?_ | refine AW.skip ?_ | refine AW.ret ?_ | refine AW.exit ?_ | refine AW.reg hT ?_) | (with_reducible refine AW.drawn (id := 3) hT [0,1,4,5,7,8,2,3,6,9,10,11,12,13] [[],[0],[0,1],[0,1,2],[],[4],[0,1,2,3,4,5],[],[7],[0,1,2,3,4,5,6,7,8],[0,1,2,3,4,5,6,7,8,9],[0,1,2,3,4,5,6,7,8,9,10],[0,1,2,3,4,5,6,7,8,9,10,11],[0,1,2,3,4,5,6,7,8,9,10,11,12]] mix (by kernel_rfl) ?_) | ((with_reducible show DLeft _ _ _ _ (_ :: _) _ _ _ _); (with_reducible apply DLeft.step hT); (case hoi => ((simp only [List.getElem?_toArray,List.getElem?_cons_zero,List.getElem?_cons_succ]); with_reducible rfl)); (case hg => rfl); (case hk => rfl); (case hr => ((try simp (maxSteps := 3000000) (maxDischargeDepth := 12) only [seval,push_cast,appendX,Try.results22,RtO,itC,eP,dcc,gty4,Heap.lt gty4]); with_reducible rfl))) | ((with_reducible refine AW.cond_true ?_ ?_); · rfl) | ((with_reducible refine AW.cond_false ?_ ?_); · rfl) | simp (maxSteps := 3000000) (maxDischargeDepth := 12) only [seval,push_cast,appendX,Try.results22,RtO,itC,eP,dcc,gty4,Heap.lt gty4])
  ((apply DLeft.call (f := 39) (first := []) (cap := [])); (case hoi => ((simp only [List.getElem?_toArray, List.getElem?_cons_zero, List.getElem?_cons_succ]); with_reducible rfl)); (case hg => rfl); (case ho => rfl); (case hc => rfl); (case hf => exact fn39); (case has => rfl)); refine ACalls.mono (raddr_ok _ x.c (by omega) (by omega)) ?_
  rintro y σ5 ⟨rfl, xt5⟩
  have gty5 := xt5.get gty4 (by simp)
  have x05 := x04.trans xt5
  clear gty4 xt5
  repeat (first | (with_reducible first | refine AW.seq ?_ | refine AW.block ?_ | refine AW.skip ?_ | refine AW.ret ?_ | refine AW.exit ?_ | refine AW.reg hT ?_) | (with_reducible refine AW.drawn (id := 3) hT [0,1,4,5,7,8,2,3,6,9,10,11,12,13] [[],[0],[0,1],[0,1,2],[],[4],[0,1,2,3,4,5],[],[7],[0,1,2,3,4,5,6,7,8],[0,1,2,3,4,5,6,7,8,9],[0,1,2,3,4,5,6,7,8,9,10],[0,1,2,3,4,5,6,7,8,9,10,11],[0,1,2,3,4,5,6,7,8,9,10,11,12]] mix (by kernel_rfl) ?_) | ((with_reducible show DLeft _ _ _ _ (_ :: _) _ _ _ _); (with_reducible apply DLeft.step hT); (case hoi => ((simp only [List.getElem?_toArray,List.getElem?_cons_zero,List.getElem?_cons_succ]); with_reducible rfl)); (case hg => rfl); (case hk => rfl); (case hr => ((try simp (maxSteps := 3000000) (maxDischargeDepth := 12) only [seval,push_cast,appendX,Try.results22,RtO,itC,eP,dcc,gty5,Heap.lt gty5]); with_reducible rfl))) | ((with_reducible refine AW.cond_true ?_ ?_); · rfl) | ((with_reducible refine AW.cond_false ?_ ?_); · rfl) | simp (maxSteps := 3000000) (maxDischargeDepth := 12) only [seval,push_cast,appendX,Try.results22,RtO,itC,eP,dcc,gty5,Heap.lt gty5])
  ((apply DLeft.call (f := 38) (first := []) (cap := [])); (case hoi => ((simp only [List.getElem?_toArray, List.getElem?_cons_zero, List.getElem?_cons_succ]); with_reducible rfl)); (case hg => rfl); (case ho => rfl); (case hc => rfl); (case hf => exact fn38); (case has => rfl)); refine ACalls.mono (laidP [(4, 167772160 + x.a), (2, 0), (2, x.b), (4, 167772160 + x.c)] (n := 4) x05 hps (by simp) rfl) ?_
  rintro y σ6 ⟨rfl, xt6⟩
  repeat (first | (with_reducible first | refine AW.seq ?_ | refine AW.block ?_ | refine AW.skip ?_ | refine AW.ret ?_ | refine AW.exit ?_ | refine AW.reg hT ?_) | (with_reducible refine AW.drawn (id := 3) hT [0,1,4,5,7,8,2,3,6,9,10,11,12,13] [[],[0],[0,1],[0,1,2],[],[4],[0,1,2,3,4,5],[],[7],[0,1,2,3,4,5,6,7,8],[0,1,2,3,4,5,6,7,8,9],[0,1,2,3,4,5,6,7,8,9,10],[0,1,2,3,4,5,6,7,8,9,10,11],[0,1,2,3,4,5,6,7,8,9,10,11,12]] mix (by kernel_rfl) ?_) | ((with_reducible show DLeft _ _ _ _ (_ :: _) _ _ _ _); (with_reducible apply DLeft.step hT); (case hoi => ((simp only [List.getElem?_toArray,List.getElem?_cons_zero,List.getElem?_cons_succ]); with_reducible rfl)); (case hg => rfl); (case hk => rfl); (case hr => ((try simp (maxSteps := 3000000) (maxDischargeDepth := 12) only [seval,push_cast,appendX,Try.results22,RtO,itC,eP,dcc,gty5,Heap.lt gty5,xt6.2,xt6.ltT,xt6.leT]); with_reducible rfl))) | ((with_reducible refine AW.cond_true ?_ ?_); · rfl) | ((with_reducible refine AW.cond_false ?_ ?_); · rfl) | simp (maxSteps := 3000000) (maxDischargeDepth := 12) only [seval,push_cast,appendX,Try.results22,RtO,itC,eP,dcc,gty5,Heap.lt gty5,xt6.2,xt6.ltT,xt6.leT])
  exact xt6
theorem rbytes_3 (σ : Heap) (dcc : x.cls = 3) (hw : x.Wf) (hm : mayI x L) : ACalls Try.prog 22 [.agg (itC x (.imm (L.map eI)))] σ (fun y σ' => y = .tup [.imm (bytesD (bodyI x L)), .sc (.int .i64 1)] ∧ Ext [] σ σ') := by
  have hmm := (may_3 dcc hw).1 hm
  obtain ⟨hwc, hwa, hwb, hwcc, hwu, hwbw, hwsu, hwho, hwan, hwal, hwno⟩ := hw
  have hps : ∀ p ∈ ([(4, 167772160 + x.a), (4, 0)] : List (Nat × Int)), pOk p := by
    simp [pOk] <;> omega
  have hbd : bodyI x L = ([(4, 167772160 + x.a), (4, 0)] : List (Nat × Int)).flatMap pD := by
    simp [bodyI, isL, dcc, stepsOf, btsL, bts, pD, Fs.get]
  rw [hbd]
  refine ACalls.code hT Try.func22 rfl ?_
  simp only [Try.ntmps22, List.length_cons, List.length_nil, Nat.reduceSub, Nat.reduceAdd, List.replicate, List.cons_append, List.nil_append]
  have x0 : Ext [] σ σ := Ext.refl _ _
  repeat ((fail_if_success (with_reducible refine AW.at1 (id := 1) ?_)); (fail_if_success (with_reducible refine AW.at2 (id := 1) ?_)); first | (with_reducible first | refine AW.seq ?_ | refine AW.block ?_ | refine AW.skip ?_ | refine AW.ret ?_ | refine AW.exit ?_ | refine AW.reg hT ?_) | ((with_reducible refine AW.cond_true ?_ ?_); · rfl) | ((with_reducible refine AW.cond_false ?_ ?_); · rfl) | simp (maxSteps := 3000000) (maxDischargeDepth := 12) only [seval,push_cast,appendX,Try.results22,itC,dcc])
  refine AW.name (fun σ1 hσ1 => ?_)
  have gtx1 : σ1.get σ.n = some (RtO x (.imm (L.map eI))) := by subst hσ1; simp (maxSteps := 3000000) (maxDischargeDepth := 12) only [push_cast, appendX, Nat.reduceAdd, Nat.reduceEqDiff, Nat.reduceLT, Nat.reduceLeDiff, reduceIte, reduceCtorEq, RtO, itC, dcc]
  have x01 : Ext [] σ σ1 := by subst hσ1; repeat (first | exact Ext.refl _ _ | assumption | refine Ext.push ?_ _ | ((refine Ext.set ?_ ?_ _); rotate_left; · (simp (maxSteps := 3000000) (maxDischargeDepth := 12) only [push_cast, appendX, Nat.reduceAdd, Nat.reduceEqDiff, Nat.reduceLT, Nat.reduceLeDiff, reduceIte, reduceCtorEq, dcc, gtx1, Heap.lt gtx1])) | ((refine Ext.then1 (by assumption) ?_ ?_); rotate_left; · (intro p hp _; first | assumption | exact List.mem_cons_of_mem _ hp | (cases hp; done) | (simp at hp; subst hp; simp))))
  clear hσ1
  generalize σ.n = p at gtx1 ⊢
  have gtx1 := gtx1
  repeat (first | (with_reducible first | refine AW.seq ?_ | refine AW.block ?_ | refine AW.skip ?_ | refine AW.ret ?_ | refine AW.exit ?_ | refine AW.reg hT ?_) | ((with_reducible refine AW.cond_true ?_ ?_); · rfl) | ((with_reducible refine AW.cond_false ?_ ?_); · rfl) | simp (maxSteps := 3000000) (maxDischargeDepth := 12) only [seval,push_cast,appendX,Try.results22,RtO,itC,eP,dcc,gtx1,Heap.lt gtx1])
  refine AOpsL.call (first := []) (cap := []) hT rfl rfl rfl fn39 rfl (ACalls.mono (raddr_ok _ x.a (by omega) (by omega)) ?_)
  rintro y σ2 ⟨rfl, xt2⟩
  have gty2 := xt2.get gtx1 (by simp)
  have x02 := x01.trans xt2
  clear gtx1 xt2
  repeat (first | (with_reducible first | refine AW.seq ?_ | refine AW.block ?_ | refine AW.skip ?_ | refine AW.ret ?_ | refine AW.exit ?_ | refine AW.reg hT ?_) | ((with_reducible refine AW.cond_true ?_ ?_); · rfl) | ((with_reducible refine AW.cond_false ?_ ?_); · rfl) | simp (maxSteps := 3000000) (maxDischargeDepth := 12) only [seval,push_cast,appendX,Try.results22,RtO,itC,eP,dcc,gty2,Heap.lt gty2])
  refine AOpsL.call (first := []) (cap := []) hT rfl rfl rfl fn40 rfl (ACalls.mono (rnum_ok _ 4 0 (by omega) (by omega)) ?_)
  rintro y σ3 ⟨rfl, xt3⟩
  have gty3 := xt3.get gty2 (by simp)
  have x03 := x02.trans xt3
  clear gty2 xt3
  repeat (first | (with_reducible first | refine AW.seq ?_ | refine AW.block ?_ | refine AW.skip ?_ | refine AW.ret ?_ | refine AW.exit ?_ | refine AW.reg hT ?_) | ((with_reducible refine AW.cond_true ?_ ?_); · rfl) | ((with_reducible refine AW.cond_false ?_ ?_); · rfl) | simp (maxSteps := 3000000) (maxDischargeDepth := 12) only [seval,push_cast,appendX,Try.results22,RtO,itC,eP,dcc,gty3,Heap.lt gty3])
  refine AOpsL.call (first := []) (cap := []) hT rfl rfl rfl fn38 rfl (ACalls.mono (laidP [(4, 167772160 + x.a), (4, 0)] (n := 2) x03 hps (by simp) rfl) ?_)
  rintro y σ4 ⟨rfl, xt4⟩
  repeat (first | (with_reducible first | refine AW.seq ?_ | refine AW.block ?_ | refine AW.skip ?_ | refine AW.ret ?_ | refine AW.exit ?_ | refine AW.reg hT ?_) | ((with_reducible refine AW.cond_true ?_ ?_); · rfl) | ((with_reducible refine AW.cond_false ?_ ?_); · rfl) | simp (maxSteps := 3000000) (maxDischargeDepth := 12) only [seval,push_cast,appendX,Try.results22,RtO,itC,eP,dcc,gty3,Heap.lt gty3,xt4.2,xt4.ltT,xt4.leT])
  exact xt4
theorem rbytes_5 (σ : Heap) (dcc : x.cls = 5) (hw : x.Wf) (hm : mayI x L) : ACalls Try.prog 22 [.agg (itC x (.imm (L.map eI)))] σ (fun y σ' => y = .tup [.imm (bytesD (bodyI x L)), .sc (.int .i64 1)] ∧ Ext [] σ σ') := by
  have hmm := (may_5 dcc hw).1 hm
  obtain ⟨hwc, hwa, hwb, hwcc, hwu, hwbw, hwsu, hwho, hwan, hwal, hwno⟩ := hw
  have hps : ∀ p ∈ ([(4, x.u)] : List (Nat × Int)), pOk p := by
    simp [pOk] <;> omega
  have hbd : bodyI x L = ([(4, x.u)] : List (Nat × Int)).flatMap pD := by
    simp [bodyI, isL, dcc, stepsOf, btsL, bts, pD, Fs.get]
  rw [hbd]
  refine ACalls.code hT Try.func22 rfl ?_
  simp only [Try.ntmps22, List.length_cons, List.length_nil, Nat.reduceSub, Nat.reduceAdd, List.replicate, List.cons_append, List.nil_append]
  have x0 : Ext [] σ σ := Ext.refl _ _
  repeat ((fail_if_success (with_reducible refine AW.at1 (id := 1) ?_)); (fail_if_success (with_reducible refine AW.at2 (id := 1) ?_)); first | (with_reducible first | refine AW.seq ?_ | refine AW.block ?_ | refine AW.skip ?_ | refine AW.ret ?_ | refine AW.exit ?_ | refine AW.reg hT ?_) | ((with_reducible refine AW.cond_true ?_ ?_); · rfl) | ((with_reducible refine AW.cond_false ?_ ?_); · rfl) | simp (maxSteps := 3000000) (maxDischargeDepth := 12) only [seval,push_cast,appendX,Try.results22,itC,dcc])
  refine AW.name (fun σ1 hσ1 => ?_)
  have gtx1 : σ1.get σ.n = some (RtO x (.imm (L.map eI))) := by subst hσ1; simp (maxSteps := 3000000) (maxDischargeDepth := 12) only [push_cast, appendX, Nat.reduceAdd, Nat.reduceEqDiff, Nat.reduceLT, Nat.reduceLeDiff, reduceIte, reduceCtorEq, RtO, itC, dcc]
  have x01 : Ext [] σ σ1 := by subst hσ1; repeat (first | exact Ext.refl _ _ | assumption | refine Ext.push ?_ _ | ((refine Ext.set ?_ ?_ _); rotate_left; · (simp (maxSteps := 3000000) (maxDischargeDepth := 12) only [push_cast, appendX, Nat.reduceAdd, Nat.reduceEqDiff, Nat.reduceLT, Nat.reduceLeDiff, reduceIte, reduceCtorEq, dcc, gtx1, Heap.lt gtx1])) | ((refine Ext.then1 (by assumption) ?_ ?_); rotate_left; · (intro p hp _; first | assumption | exact List.mem_cons_of_mem _ hp | (cases hp; done) | (simp at hp; subst hp; simp))))
  clear hσ1
  generalize σ.n = p at gtx1 ⊢
  have gtx1 := gtx1
  repeat (first | (with_reducible first | refine AW.seq ?_ | refine AW.block ?_ | refine AW.skip ?_ | refine AW.ret ?_ | refine AW.exit ?_ | refine AW.reg hT ?_) | ((with_reducible refine AW.cond_true ?_ ?_); · rfl) | ((with_reducible refine AW.cond_false ?_ ?_); · rfl) | simp (maxSteps := 3000000) (maxDischargeDepth := 12) only [seval,push_cast,appendX,Try.results22,RtO,itC,eP,dcc,gtx1,Heap.lt gtx1])
  refine AOpsL.call (first := []) (cap := []) hT rfl rfl rfl fn38 rfl (ACalls.mono (laidP [(4, x.u)] (n := 1) x01 hps (by simp) rfl) ?_)
  rintro y σ2 ⟨rfl, xt2⟩
  repeat (first | (with_reducible first | refine AW.seq ?_ | refine AW.block ?_ | refine AW.skip ?_ | refine AW.ret ?_ | refine AW.exit ?_ | refine AW.reg hT ?_) | ((with_reducible refine AW.cond_true ?_ ?_); · rfl) | ((with_reducible refine AW.cond_false ?_ ?_); · rfl) | simp (maxSteps := 3000000) (maxDischargeDepth := 12) only [seval,push_cast,appendX,Try.results22,RtO,itC,eP,dcc,gtx1,Heap.lt gtx1,xt2.2,xt2.ltT,xt2.leT])
  exact xt2
theorem rbytes_6 (σ : Heap) (dcc : x.cls = 6) (hw : x.Wf) (hm : mayI x L) : ACalls Try.prog 22 [.agg (itC x (.imm (L.map eI)))] σ (fun y σ' => y = .tup [.imm (bytesD (bodyI x L)), .sc (.int .i64 1)] ∧ Ext [] σ σ') := by
  have hmm := (may_6 dcc hw).1 hm
  obtain ⟨hwc, hwa, hwb, hwcc, hwu, hwbw, hwsu, hwho, hwan, hwal, hwno⟩ := hw
  have hps : ∀ p ∈ ([(4, 167772160 + x.a), (1, 0), (1, x.b), (2, x.c)] : List (Nat × Int)), pOk p := by
    simp [pOk] <;> omega
  have hbd : bodyI x L = ([(4, 167772160 + x.a), (1, 0), (1, x.b), (2, x.c)] : List (Nat × Int)).flatMap pD := by
    simp [bodyI, isL, dcc, stepsOf, btsL, bts, pD, Fs.get]
  rw [hbd]
  refine ACalls.code hT Try.func22 rfl ?_
  simp only [Try.ntmps22, List.length_cons, List.length_nil, Nat.reduceSub, Nat.reduceAdd, List.replicate, List.cons_append, List.nil_append]
  have x0 : Ext [] σ σ := Ext.refl _ _
  repeat ((fail_if_success (with_reducible refine AW.at1 (id := 1) ?_)); (fail_if_success (with_reducible refine AW.at2 (id := 1) ?_)); first | (with_reducible first | refine AW.seq ?_ | refine AW.block ?_ | refine AW.skip ?_ | refine AW.ret ?_ | refine AW.exit ?_ | refine AW.reg hT ?_) | ((with_reducible refine AW.cond_true ?_ ?_); · rfl) | ((with_reducible refine AW.cond_false ?_ ?_); · rfl) | simp (maxSteps := 3000000) (maxDischargeDepth := 12) only [seval,push_cast,appendX,Try.results22,itC,dcc])
  refine AW.name (fun σ1 hσ1 => ?_)
  have gtx1 : σ1.get σ.n = some (RtO x (.imm (L.map eI))) := by subst hσ1; simp (maxSteps := 3000000) (maxDischargeDepth := 12) only [push_cast, appendX, Nat.reduceAdd, Nat.reduceEqDiff, Nat.reduceLT, Nat.reduceLeDiff, reduceIte, reduceCtorEq, RtO, itC, dcc]
  have x01 : Ext [] σ σ1 := by subst hσ1; repeat (first | exact Ext.refl _ _ | assumption | refine Ext.push ?_ _ | ((refine Ext.set ?_ ?_ _); rotate_left; · (simp (maxSteps := 3000000) (maxDischargeDepth := 12) only [push_cast, appendX, Nat.reduceAdd, Nat.reduceEqDiff, Nat.reduceLT, Nat.reduceLeDiff, reduceIte, reduceCtorEq, dcc, gtx1, Heap.lt gtx1])) | ((refine Ext.then1 (by assumption) ?_ ?_); rotate_left; · (intro p hp _; first | assumption | exact List.mem_cons_of_mem _ hp | (cases hp; done) | (simp at hp; subst hp; simp))))
  clear hσ1
  generalize σ.n = p at gtx1 ⊢
  have gtx1 := gtx1
  repeat (first | (with_reducible first | refine AW.seq ?_ | refine AW.block ?_ | refine AW.skip ?_ | refine AW.ret ?_ | refine AW.exit ?_ | refine AW.reg hT ?_) | (with_reducible refine AW.drawn (id := 9) hT [0,1,4,5,7,8,2,3,6,9,10,11,12,13] [[],[0],[0,1],[0,1,2],[],[4],[0,1,2,3,4,5],[],[7],[0,1,2,3,4,5,6,7,8],[0,1,2,3,4,5,6,7,8,9],[0,1,2,3,4,5,6,7,8,9,10],[0,1,2,3,4,5,6,7,8,9,10,11],[0,1,2,3,4,5,6,7,8,9,10,11,12]] mix (by kernel_rfl) ?_) | ((with_reducible show DLeft _ _ _ _ (_ :: _) _ _ _ _); (with_reducible apply DLeft.step hT); (case hoi => ((simp only [List.getElem?_toArray,List.getElem?_cons_zero,List.getElem?_cons_succ]); with_reducible rfl)); (case hg => rfl); (case hk => rfl); (case hr => ((try simp (maxSteps := 3000000) (maxDischargeDepth := 12) only [seval,push_cast,appendX,Try.results22,RtO,itC,eP,dcc,gtx1,Heap.lt gtx1]); with_reducible rfl))) | ((with_reducible refine AW.cond_true ?_ ?_); · rfl) | ((with_reducible refine AW.cond_false ?_ ?_); · rfl) | simp (maxSteps := 3000000) (maxDischargeDepth := 12) only [seval,push_cast,appendX,Try.results22,RtO,itC,eP,dcc,gtx1,Heap.lt gtx1])
  ((apply DLeft.call (f := 39) (first := []) (cap := [])); (case hoi => ((simp only [List.getElem?_toArray, List.getElem?_cons_zero, List.getElem?_cons_succ]); with_reducible rfl)); (case hg => rfl); (case ho => rfl); (case hc => rfl); (case hf => exact fn39); (case has => rfl)); refine ACalls.mono (raddr_ok _ x.a (by omega) (by omega)) ?_
  rintro y σ2 ⟨rfl, xt2⟩
  have gty2 := xt2.get gtx1 (by simp)
  have x02 := x01.trans xt2
  clear gtx1 xt2
  repeat (first | (with_reducible first | refine AW.seq ?_ | refine AW.block ?_ | refine AW.skip ?_ | refine AW.ret ?_ | refine AW.exit ?_ | refine AW.reg hT ?_) | (with_reducible refine AW.drawn (id := 9) hT [0,1,4,5,7,8,2,3,6,9,10,11,12,13] [[],[0],[0,1],[0,1,2],[],[4],[0,1,2,3,4,5],[],[7],[0,1,2,3,4,5,6,7,8],[0,1,2,3,4,5,6,7,8,9],[0,1,2,3,4,5,6,7,8,9,10],[0,1,2,3,4,5,6,7,8,9,10,11],[0,1,2,3,4,5,6,7,8,9,10,11,12]] mix (by kernel_rfl) ?_) | ((with_reducible show DLeft _ _ _ _ (_ :: _) _ _ _ _); (with_reducible apply DLeft.step hT); (case hoi => ((simp only [List.getElem?_toArray,List.getElem?_cons_zero,List.getElem?_cons_succ]); with_reducible rfl)); (case hg => rfl); (case hk => rfl); (case hr => ((try simp (maxSteps := 3000000) (maxDischargeDepth := 12) only [seval,push_cast,appendX,Try.results22,RtO,itC,eP,dcc,gty2,Heap.lt gty2]); with_reducible rfl))) | ((with_reducible refine AW.cond_true ?_ ?_); · rfl) | ((with_reducible refine AW.cond_false ?_ ?_); · rfl) | simp (maxSteps := 3000000) (maxDischargeDepth := 12) only [seval,push_cast,appendX,Try.results22,RtO,itC,eP,dcc,gty2,Heap.lt gty2])
  ((apply DLeft.call (f := 40) (first := []) (cap := [])); (case hoi => ((simp only [List.getElem?_toArray, List.getElem?_cons_zero, List.getElem?_cons_succ]); with_reducible rfl)); (case hg => rfl); (case ho => rfl); (case hc => rfl); (case hf => exact fn40); (case has => rfl)); refine ACalls.mono (rnum_ok _ 1 0 (by omega) (by omega)) ?_
  rintro y σ3 ⟨rfl, xt3⟩
  have gty3 := xt3.get gty2 (by simp)
  have x03 := x02.trans xt3
  clear gty2 xt3
  repeat (first | (with_reducible first | refine AW.seq ?_ | refine AW.block ?_ | refine AW.skip ?_ | refine AW.ret ?_ | refine AW.exit ?_ | refine AW.reg hT ?_) | (with_reducible refine AW.drawn (id := 9) hT [0,1,4,5,7,8,2,3,6,9,10,11,12,13] [[],[0],[0,1],[0,1,2],[],[4],[0,1,2,3,4,5],[],[7],[0,1,2,3,4,5,6,7,8],[0,1,2,3,4,5,6,7,8,9],[0,1,2,3,4,5,6,7,8,9,10],[0,1,2,3,4,5,6,7,8,9,10,11],[0,1,2,3,4,5,6,7,8,9,10,11,12]] mix (by kernel_rfl) ?_) | ((with_reducible show DLeft _ _ _ _ (_ :: _) _ _ _ _); (with_reducible apply DLeft.step hT); (case hoi => ((simp only [List.getElem?_toArray,List.getElem?_cons_zero,List.getElem?_cons_succ]); with_reducible rfl)); (case hg => rfl); (case hk => rfl); (case hr => ((try simp (maxSteps := 3000000) (maxDischargeDepth := 12) only [seval,push_cast,appendX,Try.results22,RtO,itC,eP,dcc,gty3,Heap.lt gty3]); with_reducible rfl))) | ((with_reducible refine AW.cond_true ?_ ?_); · rfl) | ((with_reducible refine AW.cond_false ?_ ?_); · rfl) | simp (maxSteps := 3000000) (maxDischargeDepth := 12) only [seval,push_cast,appendX,Try.results22,RtO,itC,eP,dcc,gty3,Heap.lt gty3])
  ((apply DLeft.call (f := 40) (first := []) (cap := [])); (case hoi => ((simp only [List.getElem?_toArray, List.getElem?_cons_zero, List.getElem?_cons_succ]); with_reducible rfl)); (case hg => rfl); (case ho => rfl); (case hc => rfl); (case hf => exact fn40); (case has => rfl)); refine ACalls.mono (rnum_ok _ 1 x.b (by omega) (by omega)) ?_
  rintro y σ4 ⟨rfl, xt4⟩
  have gty4 := xt4.get gty3 (by simp)
  have x04 := x03.trans xt4
  clear gty3 xt4
  repeat (first | (with_reducible first | refine AW.seq ?_ | refine AW.block ?_ | refine AW.skip ?_ | refine AW.ret ?_ | refine AW.exit ?_ | refine AW.reg hT ?_) | (with_reducible refine AW.drawn (id := 9) hT [0,1,4,5,7,8,2,3,6,9,10,11,12,13] [[],[0],[0,1],[0,1,2],[],[4],[0,1,2,3,4,5],[],[7],[0,1,2,3,4,5,6,7,8],[0,1,2,3,4,5,6,7,8,9],[0,1,2,3,4,5,6,7,8,9,10],[0,1,2,3,4,5,6,7,8,9,10,11],[0,1,2,3,4,5,6,7,8,9,10,11,12]] mix (by kernel_rfl) ?_) | ((with_reducible show DLeft _ _ _ _ (_ :: _) _ _ _ _); (with_reducible apply DLeft.step hT); (case hoi => ((simp only [List.getElem?_toArray,List.getElem?_cons_zero,List.getElem?_cons_succ]); with_reducible rfl)); (case hg => rfl); (case hk => rfl); (case hr => ((try simp (maxSteps := 3000000) (maxDischargeDepth := 12) only [seval,push_cast,appendX,Try.results22,RtO,itC,eP,dcc,gty4,Heap.lt gty4]); with_reducible rfl))) | ((with_reducible refine AW.cond_true ?_ ?_); · rfl) | ((with_reducible refine AW.cond_false ?_ ?_); · rfl) | simp (maxSteps := 3000000) (maxDischargeDepth := 12) only [seval,push_cast,appendX,Try.results22,RtO,itC,eP,dcc,gty4,Heap.lt gty4])
  ((apply DLeft.call (f := 40) (first := []) (cap := [])); (case hoi => ((simp only [List.getElem?_toArray, List.getElem?_cons_zero, List.getElem?_cons_succ]); with_reducible rfl)); (case hg => rfl); (case ho => rfl); (case hc => rfl); (case hf => exact fn40); (case has => rfl)); refine ACalls.mono (rnum_ok _ 2 x.c (by omega) (by omega)) ?_
  rintro y σ5 ⟨rfl, xt5⟩
  have gty5 := xt5.get gty4 (by simp)
  have x05 := x04.trans xt5
  clear gty4 xt5
  repeat (first | (with_reducible first | refine AW.seq ?_ | refine AW.block ?_ | refine AW.skip ?_ | refine AW.ret ?_ | refine AW.exit ?_ | refine AW.reg hT ?_) | (with_reducible refine AW.drawn (id := 9) hT [0,1,4,5,7,8,2,3,6,9,10,11,12,13] [[],[0],[0,1],[0,1,2],[],[4],[0,1,2,3,4,5],[],[7],[0,1,2,3,4,5,6,7,8],[0,1,2,3,4,5,6,7,8,9],[0,1,2,3,4,5,6,7,8,9,10],[0,1,2,3,4,5,6,7,8,9,10,11],[0,1,2,3,4,5,6,7,8,9,10,11,12]] mix (by kernel_rfl) ?_) | ((with_reducible show DLeft _ _ _ _ (_ :: _) _ _ _ _); (with_reducible apply DLeft.step hT); (case hoi => ((simp only [List.getElem?_toArray,List.getElem?_cons_zero,List.getElem?_cons_succ]); with_reducible rfl)); (case hg => rfl); (case hk => rfl); (case hr => ((try simp (maxSteps := 3000000) (maxDischargeDepth := 12) only [seval,push_cast,appendX,Try.results22,RtO,itC,eP,dcc,gty5,Heap.lt gty5]); with_reducible rfl))) | ((with_reducible refine AW.cond_true ?_ ?_); · rfl) | ((with_reducible refine AW.cond_false ?_ ?_); · rfl) | simp (maxSteps := 3000000) (maxDischargeDepth := 12) only [seval,push_cast,appendX,Try.results22,RtO,itC,eP,dcc,gty5,Heap.lt gty5])
  ((apply DLeft.call (f := 38) (first := []) (cap := [])); (case hoi => ((simp only [List.getElem?_toArray, List.getElem?_cons_zero, List.getElem?_cons_succ]); with_reducible rfl)); (case hg => rfl); (case ho => rfl); (case hc => rfl); (case hf => exact fn38); (case has => rfl)); refine ACalls.mono (laidP [(4, 167772160 + x.a), (1, 0), (1, x.b), (2, x.c)] (n := 4) x05 hps (by simp) rfl) ?_
  rintro y σ6 ⟨rfl, xt6⟩
  repeat (first | (with_reducible first | refine AW.seq ?_ | refine AW.block ?_ | refine AW.skip ?_ | refine AW.ret ?_ | refine AW.exit ?_ | refine AW.reg hT ?_) | (with_reducible refine AW.drawn (id := 9) hT [0,1,4,5,7,8,2,3,6,9,10,11,12,13] [[],[0],[0,1],[0,1,2],[],[4],[0,1,2,3,4,5],[],[7],[0,1,2,3,4,5,6,7,8],[0,1,2,3,4,5,6,7,8,9],[0,1,2,3,4,5,6,7,8,9,10],[0,1,2,3,4,5,6,7,8,9,10,11],[0,1,2,3,4,5,6,7,8,9,10,11,12]] mix (by kernel_rfl) ?_) | ((with_reducible show DLeft _ _ _ _ (_ :: _) _ _ _ _); (with_reducible apply DLeft.step hT); (case hoi => ((simp only [List.getElem?_toArray,List.getElem?_cons_zero,List.getElem?_cons_succ]); with_reducible rfl)); (case hg => rfl); (case hk => rfl); (case hr => ((try simp (maxSteps := 3000000) (maxDischargeDepth := 12) only [seval,push_cast,appendX,Try.results22,RtO,itC,eP,dcc,gty5,Heap.lt gty5,xt6.2,xt6.ltT,xt6.leT]); with_reducible rfl))) | ((with_reducible refine AW.cond_true ?_ ?_); · rfl) | ((with_reducible refine AW.cond_false ?_ ?_); · rfl) | simp (maxSteps := 3000000) (maxDischargeDepth := 12) only [seval,push_cast,appendX,Try.results22,RtO,itC,eP,dcc,gty5,Heap.lt gty5,xt6.2,xt6.ltT,xt6.leT])
  exact xt6
theorem rbytes_8 (σ : Heap) (dcc : x.cls = 8) (hw : x.Wf) (hm : mayI x L) : ACalls Try.prog 22 [.agg (itC x (.imm (L.map eI)))] σ (fun y σ' => y = .tup [.imm (bytesD (bodyI x L)), .sc (.int .i64 1)] ∧ Ext [] σ σ') := by
  have hmm := (may_8 dcc hw).1 hm
  obtain ⟨hwc, hwa, hwb, hwcc, hwu, hwbw, hwsu, hwho, hwan, hwal, hwno⟩ := hw
  have hps : ∀ p ∈ ([(4, 18)] : List (Nat × Int)), pOk p := by
    simp [pOk] <;> omega
  have hbd : bodyI x L = ([(4, 18)] : List (Nat × Int)).flatMap pD := by
    simp [bodyI, isL, dcc, stepsOf, btsL, bts, pD, Fs.get]
  rw [hbd]
  refine ACalls.code hT Try.func22 rfl ?_
  simp only [Try.ntmps22, List.length_cons, List.length_nil, Nat.reduceSub, Nat.reduceAdd, List.replicate, List.cons_append, List.nil_append]
  have x0 : Ext [] σ σ := Ext.refl _ _
  repeat ((fail_if_success (with_reducible refine AW.at1 (id := 1) ?_)); (fail_if_success (with_reducible refine AW.at2 (id := 1) ?_)); first | (with_reducible first | refine AW.seq ?_ | refine AW.block ?_ | refine AW.skip ?_ | refine AW.ret ?_ | refine AW.exit ?_ | refine AW.reg hT ?_) | ((with_reducible refine AW.cond_true ?_ ?_); · rfl) | ((with_reducible refine AW.cond_false ?_ ?_); · rfl) | simp (maxSteps := 3000000) (maxDischargeDepth := 12) only [seval,push_cast,appendX,Try.results22,itC,dcc])
  refine AW.name (fun σ1 hσ1 => ?_)
  have gtx1 : σ1.get σ.n = some (RtO x (.imm (L.map eI))) := by subst hσ1; simp (maxSteps := 3000000) (maxDischargeDepth := 12) only [push_cast, appendX, Nat.reduceAdd, Nat.reduceEqDiff, Nat.reduceLT, Nat.reduceLeDiff, reduceIte, reduceCtorEq, RtO, itC, dcc]
  have x01 : Ext [] σ σ1 := by subst hσ1; repeat (first | exact Ext.refl _ _ | assumption | refine Ext.push ?_ _ | ((refine Ext.set ?_ ?_ _); rotate_left; · (simp (maxSteps := 3000000) (maxDischargeDepth := 12) only [push_cast, appendX, Nat.reduceAdd, Nat.reduceEqDiff, Nat.reduceLT, Nat.reduceLeDiff, reduceIte, reduceCtorEq, dcc, gtx1, Heap.lt gtx1])) | ((refine Ext.then1 (by assumption) ?_ ?_); rotate_left; · (intro p hp _; first | assumption | exact List.mem_cons_of_mem _ hp | (cases hp; done) | (simp at hp; subst hp; simp))))
  clear hσ1
  generalize σ.n = p at gtx1 ⊢
  have gtx1 := gtx1
  repeat (first | (with_reducible first | refine AW.seq ?_ | refine AW.block ?_ | refine AW.skip ?_ | refine AW.ret ?_ | refine AW.exit ?_ | refine AW.reg hT ?_) | ((with_reducible refine AW.cond_true ?_ ?_); · rfl) | ((with_reducible refine AW.cond_false ?_ ?_); · rfl) | simp (maxSteps := 3000000) (maxDischargeDepth := 12) only [seval,push_cast,appendX,Try.results22,RtO,itC,eP,dcc,gtx1,Heap.lt gtx1])
  refine AOpsL.call (first := []) (cap := []) hT rfl rfl rfl fn40 rfl (ACalls.mono (rnum_ok _ 4 18 (by omega) (by omega)) ?_)
  rintro y σ2 ⟨rfl, xt2⟩
  have gty2 := xt2.get gtx1 (by simp)
  have x02 := x01.trans xt2
  clear gtx1 xt2
  repeat (first | (with_reducible first | refine AW.seq ?_ | refine AW.block ?_ | refine AW.skip ?_ | refine AW.ret ?_ | refine AW.exit ?_ | refine AW.reg hT ?_) | ((with_reducible refine AW.cond_true ?_ ?_); · rfl) | ((with_reducible refine AW.cond_false ?_ ?_); · rfl) | simp (maxSteps := 3000000) (maxDischargeDepth := 12) only [seval,push_cast,appendX,Try.results22,RtO,itC,eP,dcc,gty2,Heap.lt gty2])
  refine AOpsL.call (first := []) (cap := []) hT rfl rfl rfl fn38 rfl (ACalls.mono (laidP [(4, 18)] (n := 1) x02 hps (by simp) rfl) ?_)
  rintro y σ3 ⟨rfl, xt3⟩
  repeat (first | (with_reducible first | refine AW.seq ?_ | refine AW.block ?_ | refine AW.skip ?_ | refine AW.ret ?_ | refine AW.exit ?_ | refine AW.reg hT ?_) | ((with_reducible refine AW.cond_true ?_ ?_); · rfl) | ((with_reducible refine AW.cond_false ?_ ?_); · rfl) | simp (maxSteps := 3000000) (maxDischargeDepth := 12) only [seval,push_cast,appendX,Try.results22,RtO,itC,eP,dcc,gty2,Heap.lt gty2,xt3.2,xt3.ltT,xt3.leT])
  exact xt3
theorem rbytes_9 (σ : Heap) (dcc : x.cls = 9) (hw : x.Wf) (hm : mayI x L) : ACalls Try.prog 22 [.agg (itC x (.imm (L.map eI)))] σ (fun y σ' => y = .tup [.imm (bytesD (bodyI x L)), .sc (.int .i64 2)] ∧ Ext [] σ σ') := by
  have hmm := (may_9 dcc hw).1 hm
  obtain ⟨hwc, hwa, hwb, hwcc, hwu, hwbw, hwsu, hwho, hwan, hwal, hwno⟩ := hw
  have hps : ∀ p ∈ ([(8, x.u)] : List (Nat × Int)), pOk p := by
    simp [pOk] <;> omega
  have hbd : bodyI x L = ([(8, x.u)] : List (Nat × Int)).flatMap pD := by
    simp [bodyI, isL, dcc, stepsOf, btsL, bts, pD, Fs.get]
  rw [hbd]
  refine ACalls.code hT Try.func22 rfl ?_
  simp only [Try.ntmps22, List.length_cons, List.length_nil, Nat.reduceSub, Nat.reduceAdd, List.replicate, List.cons_append, List.nil_append]
  have x0 : Ext [] σ σ := Ext.refl _ _
  repeat ((fail_if_success (with_reducible refine AW.at1 (id := 1) ?_)); (fail_if_success (with_reducible refine AW.at2 (id := 1) ?_)); first | (with_reducible first | refine AW.seq ?_ | refine AW.block ?_ | refine AW.skip ?_ | refine AW.ret ?_ | refine AW.exit ?_ | refine AW.reg hT ?_) | ((with_reducible refine AW.cond_true ?_ ?_); · rfl) | ((with_reducible refine AW.cond_false ?_ ?_); · rfl) | simp (maxSteps := 3000000) (maxDischargeDepth := 12) only [seval,push_cast,appendX,Try.results22,itC,dcc])
  refine AW.name (fun σ1 hσ1 => ?_)
  have gtx1 : σ1.get σ.n = some (RtO x (.imm (L.map eI))) := by subst hσ1; simp (maxSteps := 3000000) (maxDischargeDepth := 12) only [push_cast, appendX, Nat.reduceAdd, Nat.reduceEqDiff, Nat.reduceLT, Nat.reduceLeDiff, reduceIte, reduceCtorEq, RtO, itC, dcc]
  have x01 : Ext [] σ σ1 := by subst hσ1; repeat (first | exact Ext.refl _ _ | assumption | refine Ext.push ?_ _ | ((refine Ext.set ?_ ?_ _); rotate_left; · (simp (maxSteps := 3000000) (maxDischargeDepth := 12) only [push_cast, appendX, Nat.reduceAdd, Nat.reduceEqDiff, Nat.reduceLT, Nat.reduceLeDiff, reduceIte, reduceCtorEq, dcc, gtx1, Heap.lt gtx1])) | ((refine Ext.then1 (by assumption) ?_ ?_); rotate_left; · (intro p hp _; first | assumption | exact List.mem_cons_of_mem _ hp | (cases hp; done) | (simp at hp; subst hp; simp))))
  clear hσ1
  generalize σ.n = p at gtx1 ⊢
  have gtx1 := gtx1
  repeat (first | (with_reducible first | refine AW.seq ?_ | refine AW.block ?_ | refine AW.skip ?_ | refine AW.ret ?_ | refine AW.exit ?_ | refine AW.reg hT ?_) | ((with_reducible refine AW.cond_true ?_ ?_); · rfl) | ((with_reducible refine AW.cond_false ?_ ?_); · rfl) | simp (maxSteps := 3000000) (maxDischargeDepth := 12) only [seval,push_cast,appendX,Try.results22,RtO,itC,eP,dcc,gtx1,Heap.lt gtx1])
  refine AOpsL.call (first := []) (cap := []) hT rfl rfl rfl fn38 rfl (ACalls.mono (laidP [(8, x.u)] (n := 1) x01 hps (by simp) rfl) ?_)
  rintro y σ2 ⟨rfl, xt2⟩
  repeat (first | (with_reducible first | refine AW.seq ?_ | refine AW.block ?_ | refine AW.skip ?_ | refine AW.ret ?_ | refine AW.exit ?_ | refine AW.reg hT ?_) | ((with_reducible refine AW.cond_true ?_ ?_); · rfl) | ((with_reducible refine AW.cond_false ?_ ?_); · rfl) | simp (maxSteps := 3000000) (maxDischargeDepth := 12) only [seval,push_cast,appendX,Try.results22,RtO,itC,eP,dcc,gtx1,Heap.lt gtx1,xt2.2,xt2.ltT,xt2.leT])
  exact xt2
theorem rbytes_12 (σ : Heap) (dcc : x.cls = 12) (hw : x.Wf) (hm : mayI x L) : ACalls Try.prog 22 [.agg (itC x (.imm (L.map eI)))] σ (fun y σ' => y = .tup [.imm (bytesD (bodyI x L)), .sc (.int .i64 2)] ∧ Ext [] σ σ') := by
  have hmm := (may_12 dcc hw).1 hm
  obtain ⟨hwc, hwa, hwb, hwcc, hwu, hwbw, hwsu, hwho, hwan, hwal, hwno⟩ := hw
  have hps : ∀ p ∈ ([(8, x.u)] : List (Nat × Int)), pOk p := by
    simp [pOk] <;> omega
  have hbd : bodyI x L = ([(8, x.u)] : List (Nat × Int)).flatMap pD := by
    simp [bodyI, isL, dcc, stepsOf, btsL, bts, pD, Fs.get]
  rw [hbd]
  refine ACalls.code hT Try.func22 rfl ?_
  simp only [Try.ntmps22, List.length_cons, List.length_nil, Nat.reduceSub, Nat.reduceAdd, List.replicate, List.cons_append, List.nil_append]
  have x0 : Ext [] σ σ := Ext.refl _ _
  repeat ((fail_if_success (with_reducible refine AW.at1 (id := 1) ?_)); (fail_if_success (with_reducible refine AW.at2 (id := 1) ?_)); first | (with_reducible first | refine AW.seq ?_ | refine AW.block ?_ | refine AW.skip ?_ | refine AW.ret ?_ | refine AW.exit ?_ | refine AW.reg hT ?_) | ((with_reducible refine AW.cond_true ?_ ?_); · rfl) | ((with_reducible refine AW.cond_false ?_ ?_); · rfl) | simp (maxSteps := 3000000) (maxDischargeDepth := 12) only [seval,push_cast,appendX,Try.results22,itC,dcc])
  refine AW.name (fun σ1 hσ1 => ?_)
  have gtx1 : σ1.get σ.n = some (RtO x (.imm (L.map eI))) := by subst hσ1; simp (maxSteps := 3000000) (maxDischargeDepth := 12) only [push_cast, appendX, Nat.reduceAdd, Nat.reduceEqDiff, Nat.reduceLT, Nat.reduceLeDiff, reduceIte, reduceCtorEq, RtO, itC, dcc]
  have x01 : Ext [] σ σ1 := by subst hσ1; repeat (first | exact Ext.refl _ _ | assumption | refine Ext.push ?_ _ | ((refine Ext.set ?_ ?_ _); rotate_left; · (simp (maxSteps := 3000000) (maxDischargeDepth := 12) only [push_cast, appendX, Nat.reduceAdd, Nat.reduceEqDiff, Nat.reduceLT, Nat.reduceLeDiff, reduceIte, reduceCtorEq, dcc, gtx1, Heap.lt gtx1])) | ((refine Ext.then1 (by assumption) ?_ ?_); rotate_left; · (intro p hp _; first | assumption | exact List.mem_cons_of_mem _ hp | (cases hp; done) | (simp at hp; subst hp; simp))))
  clear hσ1
  generalize σ.n = p at gtx1 ⊢
  have gtx1 := gtx1
  repeat (first | (with_reducible first | refine AW.seq ?_ | refine AW.block ?_ | refine AW.skip ?_ | refine AW.ret ?_ | refine AW.exit ?_ | refine AW.reg hT ?_) | ((with_reducible refine AW.cond_true ?_ ?_); · rfl) | ((with_reducible refine AW.cond_false ?_ ?_); · rfl) | simp (maxSteps := 3000000) (maxDischargeDepth := 12) only [seval,push_cast,appendX,Try.results22,RtO,itC,eP,dcc,gtx1,Heap.lt gtx1])
  refine AOpsL.call (first := []) (cap := []) hT rfl rfl rfl fn38 rfl (ACalls.mono (laidP [(8, x.u)] (n := 1) x01 hps (by simp) rfl) ?_)
  rintro y σ2 ⟨rfl, xt2⟩
  repeat (first | (with_reducible first | refine AW.seq ?_ | refine AW.block ?_ | refine AW.skip ?_ | refine AW.ret ?_ | refine AW.exit ?_ | refine AW.reg hT ?_) | ((with_reducible refine AW.cond_true ?_ ?_); · rfl) | ((with_reducible refine AW.cond_false ?_ ?_); · rfl) | simp (maxSteps := 3000000) (maxDischargeDepth := 12) only [seval,push_cast,appendX,Try.results22,RtO,itC,eP,dcc,gtx1,Heap.lt gtx1,xt2.2,xt2.ltT,xt2.leT])
  exact xt2
theorem rbytes_10 (σ : Heap) (dcc : x.cls = 10) (hw : x.Wf) (hm : mayI x L) : ACalls Try.prog 22 [.agg (itC x (.imm (L.map eI)))] σ (fun y σ' => y = .tup [.imm (bytesD (bodyI x L)), .sc (.int .i64 7)] ∧ Ext [] σ σ') := by
  have hmm := (may_10 dcc hw).1 hm
  obtain ⟨hwc, hwa, hwb, hwcc, hwu, hwbw, hwsu, hwho, hwan, hwal, hwno⟩ := hw
  have hps : ∀ p ∈ ([(4, 167772160 + x.a), (2, 0), (2, x.b)] : List (Nat × Int)), pOk p := by
    simp [pOk] <;> omega
  have hbd : bodyI x L = ([(4, 167772160 + x.a), (2, 0), (2, x.b)] : List (Nat × Int)).flatMap pD := by
    simp [bodyI, isL, dcc, stepsOf, btsL, bts, pD, Fs.get]
  rw [hbd]
  refine ACalls.code hT Try.func22 rfl ?_
  simp only [Try.ntmps22, List.length_cons, List.length_nil, Nat.reduceSub, Nat.reduceAdd, List.replicate, List.cons_append, List.nil_append]
  have x0 : Ext [] σ σ := Ext.refl _ _
  repeat ((fail_if_success (with_reducible refine AW.at1 (id := 1) ?_)); (fail_if_success (with_reducible refine AW.at2 (id := 1) ?_)); first | (with_reducible first | refine AW.seq ?_ | refine AW.block ?_ | refine AW.skip ?_ | refine AW.ret ?_ | refine AW.exit ?_ | refine AW.reg hT ?_) | ((with_reducible refine AW.cond_true ?_ ?_); · rfl) | ((with_reducible refine AW.cond_false ?_ ?_); · rfl) | simp (maxSteps := 3000000) (maxDischargeDepth := 12) only [seval,push_cast,appendX,Try.results22,itC,dcc])
  refine AW.name (fun σ1 hσ1 => ?_)
  have gtx1 : σ1.get σ.n = some (RtO x (.imm (L.map eI))) := by subst hσ1; simp (maxSteps := 3000000) (maxDischargeDepth := 12) only [push_cast, appendX, Nat.reduceAdd, Nat.reduceEqDiff, Nat.reduceLT, Nat.reduceLeDiff, reduceIte, reduceCtorEq, RtO, itC, dcc]
  have x01 : Ext [] σ σ1 := by subst hσ1; repeat (first | exact Ext.refl _ _ | assumption | refine Ext.push ?_ _ | ((refine Ext.set ?_ ?_ _); rotate_left; · (simp (maxSteps := 3000000) (maxDischargeDepth := 12) only [push_cast, appendX, Nat.reduceAdd, Nat.reduceEqDiff, Nat.reduceLT, Nat.reduceLeDiff, reduceIte, reduceCtorEq, dcc, gtx1, Heap.lt gtx1])) | ((refine Ext.then1 (by assumption) ?_ ?_); rotate_left; · (intro p hp _; first | assumption | exact List.mem_cons_of_mem _ hp | (cases hp; done) | (simp at hp; subst hp; simp))))
  clear hσ1
  generalize σ.n = p at gtx1 ⊢
  have gtx1 := gtx1
  repeat (first | (with_reducible first | refine AW.seq ?_ | refine AW.block ?_ | refine AW.skip ?_ | refine AW.ret ?_ | refine AW.exit ?_ | refine AW.reg hT ?_) | (with_reducible refine AW.drawn (id := 17) hT [0,1,4,5,2,3,6,7,8,9,10] [[],[0],[0,1],[0,1,2],[],[4],[0,1,2,3,4,5],[0,1,2,3,4,5,6],[0,1,2,3,4,5,6,7],[0,1,2,3,4,5,6,7,8],[0,1,2,3,4,5,6,7,8,9]] mix (by kernel_rfl) ?_) | ((with_reducible show DLeft _ _ _ _ (_ :: _) _ _ _ _); (with_reducible apply DLeft.step hT); (case hoi => ((simp only [List.getElem?_toArray,List.getElem?_cons_zero,List.getElem?_cons_succ]); with_reducible rfl)); (case hg => rfl); (case hk => rfl); (case hr => ((try simp (maxSteps := 3000000) (maxDischargeDepth := 12) only [seval,push_cast,appendX,Try.results22,RtO,itC,eP,dcc,gtx1,Heap.lt gtx1]); with_reducible rfl))) | ((with_reducible refine AW.cond_true ?_ ?_); · rfl) | ((with_reducible refine AW.cond_false ?_ ?_); · rfl) | simp (maxSteps := 3000000) (maxDischargeDepth := 12) only [seval,push_cast,appendX,Try.results22,RtO,itC,eP,dcc,gtx1,Heap.lt gtx1])
  ((apply DLeft.call (f := 39) (first := []) (cap := [])); (case hoi => ((simp only [List.getElem?_toArray, List.getElem?_cons_zero, List.getElem?_cons_succ]); with_reducible rfl)); (case hg => rfl); (case ho => rfl); (case hc => rfl); (case hf => exact fn39); (case has => rfl)); refine ACalls.mono (raddr_ok _ x.a (by omega) (by omega)) ?_
  rintro y σ2 ⟨rfl, xt2⟩
  have gty2 := xt2.get gtx1 (by simp)
  have x02 := x01.trans xt2
  clear gtx1 xt2
  repeat (first | (with_reducible first | refine AW.seq ?_ | refine AW.block ?_ | refine AW.skip ?_ | refine AW.ret ?_ | refine AW.exit ?_ | refine AW.reg hT ?_) | (with_reducible refine AW.drawn (id := 17) hT [0,1,4,5,2,3,6,7,8,9,10] [[],[0],[0,1],[0,1,2],[],[4],[0,1,2,3,4,5],[0,1,2,3,4,5,6],[0,1,2,3,4,5,6,7],[0,1,2,3,4,5,6,7,8],[0,1,2,3,4,5,6,7,8,9]] mix (by kernel_rfl) ?_) | ((with_reducible show DLeft _ _ _ _ (_ :: _) _ _ _ _); (with_reducible apply DLeft.step hT); (case hoi => ((simp only [List.getElem?_toArray,List.getElem?_cons_zero,List.getElem?_cons_succ]); with_reducible rfl)); (case hg => rfl); (case hk => rfl); (case hr => ((try simp (maxSteps := 3000000) (maxDischargeDepth := 12) only [seval,push_cast,appendX,Try.results22,RtO,itC,eP,dcc,gty2,Heap.lt gty2]); with_reducible rfl))) | ((with_reducible refine AW.cond_true ?_ ?_); · rfl) | ((with_reducible refine AW.cond_false ?_ ?_); · rfl) | simp (maxSteps := 3000000) (maxDischargeDepth := 12) only [seval,push_cast,appendX,Try.results22,RtO,itC,eP,dcc,gty2,Heap.lt gty2])
  ((apply DLeft.call (f := 40) (first := []) (cap := [])); (case hoi => ((simp only [List.getElem?_toArray, List.getElem?_cons_zero, List.getElem?_cons_succ]); with_reducible rfl)); (case hg => rfl); (case ho => rfl); (case hc => rfl); (case hf => exact fn40); (case has => rfl)); refine ACalls.mono (rnum_ok _ 2 0 (by omega) (by omega)) ?_
  rintro y σ3 ⟨rfl, xt3⟩
  have gty3 := xt3.get gty2 (by simp)
  have x03 := x02.trans xt3
  clear gty2 xt3
  repeat (first | (with_reducible first | refine AW.seq ?_ | refine AW.block ?_ | refine AW.skip ?_ | refine AW.ret ?_ | refine AW.exit ?_ | refine AW.reg hT ?_) | (with_reducible refine AW.drawn (id := 17) hT [0,1,4,5,2,3,6,7,8,9,10] [[],[0],[0,1],[0,1,2],[],[4],[0,1,2,3,4,5],[0,1,2,3,4,5,6],[0,1,2,3,4,5,6,7],[0,1,2,3,4,5,6,7,8],[0,1,2,3,4,5,6,7,8,9]] mix (by kernel_rfl) ?_) | ((with_reducible show DLeft _ _ _ _ (_ :: _) _ _ _ _); (with_reducible apply DLeft.step hT); (case hoi => ((simp only [List.getElem?_toArray,List.getElem?_cons_zero,List.getElem?_cons_succ]); with_reducible rfl)); (case hg => rfl); (case hk => rfl); (case hr => ((try simp (maxSteps := 3000000) (maxDischargeDepth := 12) only [seval,push_cast,appendX,Try.results22,RtO,itC,eP,dcc,gty3,Heap.lt gty3]); with_reducible rfl))) | ((with_reducible refine AW.cond_true ?_ ?_); · rfl) | ((with_reducible refine AW.cond_false ?_ ?_); · rfl) | simp (maxSteps := 3000000) (maxDischargeDepth := 12) only [seval,push_cast,appendX,Try.results22,RtO,itC,eP,dcc,gty3,Heap.lt gty3])
  ((apply DLeft.call (f := 40) (first := []) (cap := [])); (case hoi => ((simp only [List.getElem?_toArray, List.getElem?_cons_zero, List.getElem?_cons_succ]); with_reducible rfl)); (case hg => rfl); (case ho => rfl); (case hc => rfl); (case hf => exact fn40); (case has => rfl)); refine ACalls.mono (rnum_ok _ 2 x.b (by omega) (by omega)) ?_
  rintro y σ4 ⟨rfl, xt4⟩
  have gty4 := xt4.get gty3 (by simp)
  have x04 := x03.trans xt4
  clear gty3 xt4
  repeat (first | (with_reducible first | refine AW.seq ?_ | refine AW.block ?_ | refine AW.skip ?_ | refine AW.ret ?_ | refine AW.exit ?_ | refine AW.reg hT ?_) | (with_reducible refine AW.drawn (id := 17) hT [0,1,4,5,2,3,6,7,8,9,10] [[],[0],[0,1],[0,1,2],[],[4],[0,1,2,3,4,5],[0,1,2,3,4,5,6],[0,1,2,3,4,5,6,7],[0,1,2,3,4,5,6,7,8],[0,1,2,3,4,5,6,7,8,9]] mix (by kernel_rfl) ?_) | ((with_reducible show DLeft _ _ _ _ (_ :: _) _ _ _ _); (with_reducible apply DLeft.step hT); (case hoi => ((simp only [List.getElem?_toArray,List.getElem?_cons_zero,List.getElem?_cons_succ]); with_reducible rfl)); (case hg => rfl); (case hk => rfl); (case hr => ((try simp (maxSteps := 3000000) (maxDischargeDepth := 12) only [seval,push_cast,appendX,Try.results22,RtO,itC,eP,dcc,gty4,Heap.lt gty4]); with_reducible rfl))) | ((with_reducible refine AW.cond_true ?_ ?_); · rfl) | ((with_reducible refine AW.cond_false ?_ ?_); · rfl) | simp (maxSteps := 3000000) (maxDischargeDepth := 12) only [seval,push_cast,appendX,Try.results22,RtO,itC,eP,dcc,gty4,Heap.lt gty4])
  ((apply DLeft.call (f := 38) (first := []) (cap := [])); (case hoi => ((simp only [List.getElem?_toArray, List.getElem?_cons_zero, List.getElem?_cons_succ]); with_reducible rfl)); (case hg => rfl); (case ho => rfl); (case hc => rfl); (case hf => exact fn38); (case has => rfl)); refine ACalls.mono (laidP [(4, 167772160 + x.a), (2, 0), (2, x.b)] (n := 3) x04 hps (by simp) rfl) ?_
  rintro y σ5 ⟨rfl, xt5⟩
  repeat (first | (with_reducible first | refine AW.seq ?_ | refine AW.block ?_ | refine AW.skip ?_ | refine AW.ret ?_ | refine AW.exit ?_ | refine AW.reg hT ?_) | (with_reducible refine AW.drawn (id := 17) hT [0,1,4,5,2,3,6,7,8,9,10] [[],[0],[0,1],[0,1,2],[],[4],[0,1,2,3,4,5],[0,1,2,3,4,5,6],[0,1,2,3,4,5,6,7],[0,1,2,3,4,5,6,7,8],[0,1,2,3,4,5,6,7,8,9]] mix (by kernel_rfl) ?_) | ((with_reducible show DLeft _ _ _ _ (_ :: _) _ _ _ _); (with_reducible apply DLeft.step hT); (case hoi => ((simp only [List.getElem?_toArray,List.getElem?_cons_zero,List.getElem?_cons_succ]); with_reducible rfl)); (case hg => rfl); (case hk => rfl); (case hr => ((try simp (maxSteps := 3000000) (maxDischargeDepth := 12) only [seval,push_cast,appendX,Try.results22,RtO,itC,eP,dcc,gty4,Heap.lt gty4,xt5.2,xt5.ltT,xt5.leT]); with_reducible rfl))) | ((with_reducible refine AW.cond_true ?_ ?_); · rfl) | ((with_reducible refine AW.cond_false ?_ ?_); · rfl) | simp (maxSteps := 3000000) (maxDischargeDepth := 12) only [seval,push_cast,appendX,Try.results22,RtO,itC,eP,dcc,gty4,Heap.lt gty4,xt5.2,xt5.ltT,xt5.leT])
  exact xt5
theorem rbytes_11 (σ : Heap) (dcc : x.cls = 11) (hw : x.Wf) (hm : mayI x L) : ACalls Try.prog 22 [.agg (itC x (.imm (L.map eI)))] σ (fun y σ' => y = .tup [.imm (bytesD (bodyI x L)), .sc (.int .i64 7)] ∧ Ext [] σ σ') := by
  have hmm := (may_11 dcc hw).1 hm
  obtain ⟨hwc, hwa, hwb, hwcc, hwu, hwbw, hwsu, hwho, hwan, hwal, hwno⟩ := hw
  have hps : ∀ p ∈ ([(4, 167772160 + x.a), (2, 0), (2, x.b)] : List (Nat × Int)), pOk p := by
    simp [pOk] <;> omega
  have hbd : bodyI x L = ([(4, 167772160 + x.a), (2, 0), (2, x.b)] : List (Nat × Int)).flatMap pD := by
    simp [bodyI, isL, dcc, stepsOf, btsL, bts, pD, Fs.get]
  rw [hbd]
  refine ACalls.code hT Try.func22 rfl ?_
  simp only [Try.ntmps22, List.length_cons, List.length_nil, Nat.reduceSub, Nat.reduceAdd, List.replicate, List.cons_append, List.nil_append]
  have x0 : Ext [] σ σ := Ext.refl _ _
  repeat ((fail_if_success (with_reducible refine AW.at1 (id := 1) ?_)); (fail_if_success (with_reducible refine AW.at2 (id := 1) ?_)); first | (with_reducible first | refine AW.seq ?_ | refine AW.block ?_ | refine AW.skip ?_ | refine AW.ret ?_ | refine AW.exit ?_ | refine AW.reg hT ?_) | ((with_reducible refine AW.cond_true ?_ ?_); · rfl) | ((with_reducible refine AW.cond_false ?_ ?_); · rfl) | simp (maxSteps := 3000000) (maxDischargeDepth := 12) only [seval,push_cast,appendX,Try.results22,itC,dcc])
  refine AW.name (fun σ1 hσ1 => ?_)
  have gtx1 : σ1.get σ.n = some (RtO x (.imm (L.map eI))) := by subst hσ1; simp (maxSteps := 3000000) (maxDischargeDepth := 12) only [push_cast, appendX, Nat.reduceAdd, Nat.reduceEqDiff, Nat.reduceLT, Nat.reduceLeDiff, reduceIte, reduceCtorEq, RtO, itC, dcc]
  have x01 : Ext [] σ σ1 := by subst hσ1; repeat (first | exact Ext.refl _ _ | assumption | refine Ext.push ?_ _ | ((refine Ext.set ?_ ?_ _); rotate_left; · (simp (maxSteps := 3000000) (maxDischargeDepth := 12) only [push_cast, appendX, Nat.reduceAdd, Nat.reduceEqDiff, Nat.reduceLT, Nat.reduceLeDiff, reduceIte, reduceCtorEq, dcc, gtx1, Heap.lt gtx1])) | ((refine Ext.then1 (by assumption) ?_ ?_); rotate_left; · (intro p hp _; first | assumption | exact List.mem_cons_of_mem _ hp | (cases hp; done) | (simp at hp; subst hp; simp))))
  clear hσ1
  generalize σ.n = p at gtx1 ⊢
  have gtx1 := gtx1
  repeat (first | (with_reducible first | refine AW.seq ?_ | refine AW.block ?_ | refine AW.skip ?_ | refine AW.ret ?_ | refine AW.exit ?_ | refine AW.reg hT ?_) | (with_reducible refine AW.drawn (id := 17) hT [0,1,4,5,2,3,6,7,8,9,10] [[],[0],[0,1],[0,1,2],[],[4],[0,1,2,3,4,5],[0,1,2,3,4,5,6],[0,1,2,3,4,5,6,7],[0,1,2,3,4,5,6,7,8],[0,1,2,3,4,5,6,7,8,9]] mix (by kernel_rfl) ?_) | ((with_reducible show DLeft _ _ _ _ (_ :: _) _ _ _ _); (with_reducible apply DLeft.step hT); (case hoi => ((simp only [List.getElem?_toArray,List.getElem?_cons_zero,List.getElem?_cons_succ]); with_reducible rfl)); (case hg => rfl); (case hk => rfl); (case hr => ((try simp (maxSteps := 3000000) (maxDischargeDepth := 12) only [seval,push_cast,appendX,Try.results22,RtO,itC,eP,dcc,gtx1,Heap.lt gtx1]); with_reducible rfl))) | ((with_reducible refine AW.cond_true ?_ ?_); · rfl) | ((with_reducible refine AW.cond_false ?_ ?_); · rfl) | simp (maxSteps := 3000000) (maxDischargeDepth := 12) only [seval,push_cast,appendX,Try.results22,RtO,itC,eP,dcc,gtx1,Heap.lt gtx1])
  ((apply DLeft.call (f := 39) (first := []) (cap := [])); (case hoi => ((simp only [List.getElem?_toArray, List.getElem?_cons_zero, List.getElem?_cons_succ]); with_reducible rfl)); (case hg => rfl); (case ho => rfl); (case hc => rfl); (case hf => exact fn39); (case has => rfl)); refine ACalls.mono (raddr_ok _ x.a (by omega) (by omega)) ?_
  rintro y σ2 ⟨rfl, xt2⟩
  have gty2 := xt2.get gtx1 (by simp)
  have x02 := x01.trans xt2
  clear gtx1 xt2
  repeat (first | (with_reducible first | refine AW.seq ?_ | refine AW.block ?_ | refine AW.skip ?_ | refine AW.ret ?_ | refine AW.exit ?_ | refine AW.reg hT ?_) | (with_reducible refine AW.drawn (id := 17) hT [0,1,4,5,2,3,6,7,8,9,10] [[],[0],[0,1],[0,1,2],[],[4],[0,1,2,3,4,5],[0,1,2,3,4,5,6],[0,1,2,3,4,5,6,7],[0,1,2,3,4,5,6,7,8],[0,1,2,3,4,5,6,7,8,9]] mix (by kernel_rfl) ?_) | ((with_reducible show DLeft _ _ _ _ (_ :: _) _ _ _ _); (with_reducible apply DLeft.step hT); (case hoi => ((simp only [List.getElem?_toArray,List.getElem?_cons_zero,List.getElem?_cons_succ]); with_reducible rfl)); (case hg => rfl); (case hk => rfl); (case hr => ((try simp (maxSteps := 3000000) (maxDischargeDepth := 12) only [seval,push_cast,appendX,Try.results22,RtO,itC,eP,dcc,gty2,Heap.lt gty2]); with_reducible rfl))) | ((with_reducible refine AW.cond_true ?_ ?_); · rfl) | ((with_reducible refine AW.cond_false ?_ ?_); · rfl) | simp (maxSteps := 3000000) (maxDischargeDepth := 12) only [seval,push_cast,appendX,Try.results22,RtO,itC,eP,dcc,gty2,Heap.lt gty2])
  ((apply DLeft.call (f := 40) (first := []) (cap := [])); (case hoi => ((simp only [List.getElem?_toArray, List.getElem?_cons_zero, List.getElem?_cons_succ]); with_reducible rfl)); (case hg => rfl); (case ho => rfl); (case hc => rfl); (case hf => exact fn40); (case has => rfl)); refine ACalls.mono (rnum_ok _ 2 0 (by omega) (by omega)) ?_
  rintro y σ3 ⟨rfl, xt3⟩
  have gty3 := xt3.get gty2 (by simp)
  have x03 := x02.trans xt3
  clear gty2 xt3
  repeat (first | (with_reducible first | refine AW.seq ?_ | refine AW.block ?_ | refine AW.skip ?_ | refine AW.ret ?_ | refine AW.exit ?_ | refine AW.reg hT ?_) | (with_reducible refine AW.drawn (id := 17) hT [0,1,4,5,2,3,6,7,8,9,10] [[],[0],[0,1],[0,1,2],[],[4],[0,1,2,3,4,5],[0,1,2,3,4,5,6],[0,1,2,3,4,5,6,7],[0,1,2,3,4,5,6,7,8],[0,1,2,3,4,5,6,7,8,9]] mix (by kernel_rfl) ?_) | ((with_reducible show DLeft _ _ _ _ (_ :: _) _ _ _ _); (with_reducible apply DLeft.step hT); (case hoi => ((simp only [List.getElem?_toArray,List.getElem?_cons_zero,List.getElem?_cons_succ]); with_reducible rfl)); (case hg => rfl); (case hk => rfl); (case hr => ((try simp (maxSteps := 3000000) (maxDischargeDepth := 12) only [seval,push_cast,appendX,Try.results22,RtO,itC,eP,dcc,gty3,Heap.lt gty3]); with_reducible rfl))) | ((with_reducible refine AW.cond_true ?_ ?_); · rfl) | ((with_reducible refine AW.cond_false ?_ ?_); · rfl) | simp (maxSteps := 3000000) (maxDischargeDepth := 12) only [seval,push_cast,appendX,Try.results22,RtO,itC,eP,dcc,gty3,Heap.lt gty3])
  ((apply DLeft.call (f := 40) (first := []) (cap := [])); (case hoi => ((simp only [List.getElem?_toArray, List.getElem?_cons_zero, List.getElem?_cons_succ]); with_reducible rfl)); (case hg => rfl); (case ho => rfl); (case hc => rfl); (case hf => exact fn40); (case has => rfl)); refine ACalls.mono (rnum_ok _ 2 x.b (by omega) (by omega)) ?_
  rintro y σ4 ⟨rfl, xt4⟩
  have gty4 := xt4.get gty3 (by simp)
  have x04 := x03.trans xt4
  clear gty3 xt4
  repeat (first | (with_reducible first | refine AW.seq ?_ | refine AW.block ?_ | refine AW.skip ?_ | refine AW.ret ?_ | refine AW.exit ?_ | refine AW.reg hT ?_) | (with_reducible refine AW.drawn (id := 17) hT [0,1,4,5,2,3,6,7,8,9,10] [[],[0],[0,1],[0,1,2],[],[4],[0,1,2,3,4,5],[0,1,2,3,4,5,6],[0,1,2,3,4,5,6,7],[0,1,2,3,4,5,6,7,8],[0,1,2,3,4,5,6,7,8,9]] mix (by kernel_rfl) ?_) | ((with_reducible show DLeft _ _ _ _ (_ :: _) _ _ _ _); (with_reducible apply DLeft.step hT); (case hoi => ((simp only [List.getElem?_toArray,List.getElem?_cons_zero,List.getElem?_cons_succ]); with_reducible rfl)); (case hg => rfl); (case hk => rfl); (case hr => ((try simp (maxSteps := 3000000) (maxDischargeDepth := 12) only [seval,push_cast,appendX,Try.results22,RtO,itC,eP,dcc,gty4,Heap.lt gty4]); with_reducible rfl))) | ((with_reducible refine AW.cond_true ?_ ?_); · rfl) | ((with_reducible refine AW.cond_false ?_ ?_); · rfl) | simp (maxSteps := 3000000) (maxDischargeDepth := 12) only [seval,push_cast,appendX,Try.results22,RtO,itC,eP,dcc,gty4,Heap.lt gty4])
  ((apply DLeft.call (f := 38) (first := []) (cap := [])); (case hoi => ((simp only [List.getElem?_toArray, List.getElem?_cons_zero, List.getElem?_cons_succ]); with_reducible rfl)); (case hg => rfl); (case ho => rfl); (case hc => rfl); (case hf => exact fn38); (case has => rfl)); refine ACalls.mono (laidP [(4, 167772160 + x.a), (2, 0), (2, x.b)] (n := 3) x04 hps (by simp) rfl) ?_
  rintro y σ5 ⟨rfl, xt5⟩
  repeat (first | (with_reducible first | refine AW.seq ?_ | refine AW.block ?_ | refine AW.skip ?_ | refine AW.ret ?_ | refine AW.exit ?_ | refine AW.reg hT ?_) | (with_reducible refine AW.drawn (id := 17) hT [0,1,4,5,2,3,6,7,8,9,10] [[],[0],[0,1],[0,1,2],[],[4],[0,1,2,3,4,5],[0,1,2,3,4,5,6],[0,1,2,3,4,5,6,7],[0,1,2,3,4,5,6,7,8],[0,1,2,3,4,5,6,7,8,9]] mix (by kernel_rfl) ?_) | ((with_reducible show DLeft _ _ _ _ (_ :: _) _ _ _ _); (with_reducible apply DLeft.step hT); (case hoi => ((simp only [List.getElem?_toArray,List.getElem?_cons_zero,List.getElem?_cons_succ]); with_reducible rfl)); (case hg => rfl); (case hk => rfl); (case hr => ((try simp (maxSteps := 3000000) (maxDischargeDepth := 12) only [seval,push_cast,appendX,Try.results22,RtO,itC,eP,dcc,gty4,Heap.lt gty4,xt5.2,xt5.ltT,xt5.leT]); with_reducible rfl))) | ((with_reducible refine AW.cond_true ?_ ?_); · rfl) | ((with_reducible refine AW.cond_false ?_ ?_); · rfl) | simp (maxSteps := 3000000) (maxDischargeDepth := 12) only [seval,push_cast,appendX,Try.results22,RtO,itC,eP,dcc,gty4,Heap.lt gty4,xt5.2,xt5.ltT,xt5.leT])
  exact xt5
theorem rbytes_16 (σ : Heap) (dcc : x.cls = 16) (hw : x.Wf) (hm : mayI x L) : ACalls Try.prog 22 [.agg (itC x (.imm (L.map eI)))] σ (fun y σ' => y = .tup [.imm (bytesD (bodyI x L)), .sc (.int .i64 1)] ∧ Ext [] σ σ') := by
  have hmm := (may_16 dcc hw).1 hm
  obtain ⟨hwc, hwa, hwb, hwcc, hwu, hwbw, hwsu, hwho, hwan, hwal, hwno⟩ := hw
  have hps : ∀ p ∈ ([(4, x.a)] : List (Nat × Int)), pOk p := by
    simp [pOk] <;> omega
  have hbd : bodyI x L = ([(4, x.a)] : List (Nat × Int)).flatMap pD := by
    simp [bodyI, isL, dcc, stepsOf, btsL, bts, pD, Fs.get]
  rw [hbd]
  refine ACalls.code hT Try.func22 rfl ?_
  simp only [Try.ntmps22, List.length_cons, List.length_nil, Nat.reduceSub, Nat.reduceAdd, List.replicate, List.cons_append, List.nil_append]
  have x0 : Ext [] σ σ := Ext.refl _ _
  repeat ((fail_if_success (with_reducible refine AW.at1 (id := 1) ?_)); (fail_if_success (with_reducible refine AW.at2 (id := 1) ?_)); first | (with_reducible first | refine AW.seq ?_ | refine AW.block ?_ | refine AW.skip ?_ | refine AW.ret ?_ | refine AW.exit ?_ | refine AW.reg hT ?_) | ((with_reducible refine AW.cond_true ?_ ?_); · rfl) | ((with_reducible refine AW.cond_false ?_ ?_); · rfl) | simp (maxSteps := 3000000) (maxDischargeDepth := 12) only [seval,push_cast,appendX,Try.results22,itC,dcc])
  refine AW.name (fun σ1 hσ1 => ?_)
  have gtx1 : σ1.get σ.n = some (RtO x (.imm (L.map eI))) := by subst hσ1; simp (maxSteps := 3000000) (maxDischargeDepth := 12) only [push_cast, appendX, Nat.reduceAdd, Nat.reduceEqDiff, Nat.reduceLT, Nat.reduceLeDiff, reduceIte, reduceCtorEq, RtO, itC, dcc]
  have x01 : Ext [] σ σ1 := by subst hσ1; repeat (first | exact Ext.refl _ _ | assumption | refine Ext.push ?_ _ | ((refine Ext.set ?_ ?_ _); rotate_left; · (simp (maxSteps := 3000000) (maxDischargeDepth := 12) only [push_cast, appendX, Nat.reduceAdd, Nat.reduceEqDiff, Nat.reduceLT, Nat.reduceLeDiff, reduceIte, reduceCtorEq, dcc, gtx1, Heap.lt gtx1])) | ((refine Ext.then1 (by assumption) ?_ ?_); rotate_left; · (intro p hp _; first | assumption | exact List.mem_cons_of_mem _ hp | (cases hp; done) | (simp at hp; subst hp; simp))))
  clear hσ1
  generalize σ.n = p at gtx1 ⊢
  have gtx1 := gtx1
  repeat (first | (with_reducible first | refine AW.seq ?_ | refine AW.block ?_ | refine AW.skip ?_ | refine AW.ret ?_ | refine AW.exit ?_ | refine AW.reg hT ?_) | ((with_reducible refine AW.cond_true ?_ ?_); · rfl) | ((with_reducible refine AW.cond_false ?_ ?_); · rfl) | simp (maxSteps := 3000000) (maxDischargeDepth := 12) only [seval,push_cast,appendX,Try.results22,RtO,itC,eP,dcc,gtx1,Heap.lt gtx1])
  refine AOpsL.call (first := []) (cap := []) hT rfl rfl rfl fn40 rfl (ACalls.mono (rnum_ok _ 4 x.a (by omega) (by omega)) ?_)
  rintro y σ2 ⟨rfl, xt2⟩
  have gty2 := xt2.get gtx1 (by simp)
  have x02 := x01.trans xt2
  clear gtx1 xt2
  repeat (first | (with_reducible first | refine AW.seq ?_ | refine AW.block ?_ | refine AW.skip ?_ | refine AW.ret ?_ | refine AW.exit ?_ | refine AW.reg hT ?_) | ((with_reducible refine AW.cond_true ?_ ?_); · rfl) | ((with_reducible refine AW.cond_false ?_ ?_); · rfl) | simp (maxSteps := 3000000) (maxDischargeDepth := 12) only [seval,push_cast,appendX,Try.results22,RtO,itC,eP,dcc,gty2,Heap.lt gty2])
  refine AOpsL.call (first := []) (cap := []) hT rfl rfl rfl fn38 rfl (ACalls.mono (laidP [(4, x.a)] (n := 1) x02 hps (by simp) rfl) ?_)
  rintro y σ3 ⟨rfl, xt3⟩
  repeat (first | (with_reducible first | refine AW.seq ?_ | refine AW.block ?_ | refine AW.skip ?_ | refine AW.ret ?_ | refine AW.exit ?_ | refine AW.reg hT ?_) | ((with_reducible refine AW.cond_true ?_ ?_); · rfl) | ((with_reducible refine AW.cond_false ?_ ?_); · rfl) | simp (maxSteps := 3000000) (maxDischargeDepth := 12) only [seval,push_cast,appendX,Try.results22,RtO,itC,eP,dcc,gty2,Heap.lt gty2,xt3.2,xt3.ltT,xt3.leT])
  exact xt3
theorem rbytes_19 (σ : Heap) (dcc : x.cls = 19) (hw : x.Wf) (hm : mayI x L) : ACalls Try.prog 22 [.agg (itC x (.imm (L.map eI)))] σ (fun y σ' => y = .tup [.imm (bytesD (bodyI x L)), .sc (.int .i64 1)] ∧ Ext [] σ σ') := by
  have hmm := (may_19 dcc hw).1 hm
  obtain ⟨hwc, hwa, hwb, hwcc, hwu, hwbw, hwsu, hwho, hwan, hwal, hwno⟩ := hw
  have hps : ∀ p ∈ ([(4, x.a)] : List (Nat × Int)), pOk p := by
    simp [pOk] <;> omega
  have hbd : bodyI x L = ([(4, x.a)] : List (Nat × Int)).flatMap pD := by
    simp [bodyI, isL, dcc, stepsOf, btsL, bts, pD, Fs.get]
    simp [digits, digit]; omega
  rw [hbd]
  refine ACalls.code hT Try.func22 rfl ?_
  simp only [Try.ntmps22, List.length_cons, List.length_nil, Nat.reduceSub, Nat.reduceAdd, List.replicate, List.cons_append, List.nil_append]
  have x0 : Ext [] σ σ := Ext.refl _ _
  repeat ((fail_if_success (with_reducible refine AW.at1 (id := 1) ?_)); (fail_if_success (with_reducible refine AW.at2 (id := 1) ?_)); first | (with_reducible first | refine AW.seq ?_ | refine AW.block ?_ | refine AW.skip ?_ | refine AW.ret ?_ | refine AW.exit ?_ | refine AW.reg hT ?_) | ((with_reducible refine AW.cond_true ?_ ?_); · rfl) | ((with_reducible refine AW.cond_false ?_ ?_); · rfl) | simp (maxSteps := 3000000) (maxDischargeDepth := 12) only [seval,push_cast,appendX,Try.results22,itC,dcc])
  refine AW.name (fun σ1 hσ1 => ?_)
  have gtx1 : σ1.get σ.n = some (RtO x (.imm (L.map eI))) := by subst hσ1; simp (maxSteps := 3000000) (maxDischargeDepth := 12) only [push_cast, appendX, Nat.reduceAdd, Nat.reduceEqDiff, Nat.reduceLT, Nat.reduceLeDiff, reduceIte, reduceCtorEq, RtO, itC, dcc]
  have x01 : Ext [] σ σ1 := by subst hσ1; repeat (first | exact Ext.refl _ _ | assumption | refine Ext.push ?_ _ | ((refine Ext.set ?_ ?_ _); rotate_left; · (simp (maxSteps := 3000000) (maxDischargeDepth := 12) only [push_cast, appendX, Nat.reduceAdd, Nat.reduceEqDiff, Nat.reduceLT, Nat.reduceLeDiff, reduceIte, reduceCtorEq, dcc, gtx1, Heap.lt gtx1])) | ((refine Ext.then1 (by assumption) ?_ ?_); rotate_left; · (intro p hp _; first | assumption | exact List.mem_cons_of_mem _ hp | (cases hp; done) | (simp at hp; subst hp; simp))))
  clear hσ1
  generalize σ.n = p at gtx1 ⊢
  have gtx1 := gtx1
  repeat (first | (with_reducible first | refine AW.seq ?_ | refine AW.block ?_ | refine AW.skip ?_ | refine AW.ret ?_ | refine AW.exit ?_ | refine AW.reg hT ?_) | ((with_reducible refine AW.cond_true ?_ ?_); · rfl) | ((with_reducible refine AW.cond_false ?_ ?_); · rfl) | simp (maxSteps := 3000000) (maxDischargeDepth := 12) only [seval,push_cast,appendX,Try.results22,RtO,itC,eP,dcc,gtx1,Heap.lt gtx1])
  refine AOpsL.call (first := []) (cap := []) hT rfl rfl rfl fn40 rfl (ACalls.mono (rnum_ok _ 4 x.a (by omega) (by omega)) ?_)
  rintro y σ2 ⟨rfl, xt2⟩
  have gty2 := xt2.get gtx1 (by simp)
  have x02 := x01.trans xt2
  clear gtx1 xt2
  repeat (first | (with_reducible first | refine AW.seq ?_ | refine AW.block ?_ | refine AW.skip ?_ | refine AW.ret ?_ | refine AW.exit ?_ | refine AW.reg hT ?_) | ((with_reducible refine AW.cond_true ?_ ?_); · rfl) | ((with_reducible refine AW.cond_false ?_ ?_); · rfl) | simp (maxSteps := 3000000) (maxDischargeDepth := 12) only [seval,push_cast,appendX,Try.results22,RtO,itC,eP,dcc,gty2,Heap.lt gty2])
  refine AOpsL.call (first := []) (cap := []) hT rfl rfl rfl fn38 rfl (ACalls.mono (laidP [(4, x.a)] (n := 1) x02 hps (by simp) rfl) ?_)
  rintro y σ3 ⟨rfl, xt3⟩
  repeat (first | (with_reducible first | refine AW.seq ?_ | refine AW.block ?_ | refine AW.skip ?_ | refine AW.ret ?_ | refine AW.exit ?_ | refine AW.reg hT ?_) | ((with_reducible refine AW.cond_true ?_ ?_); · rfl) | ((with_reducible refine AW.cond_false ?_ ?_); · rfl) | simp (maxSteps := 3000000) (maxDischargeDepth := 12) only [seval,push_cast,appendX,Try.results22,RtO,itC,eP,dcc,gty2,Heap.lt gty2,xt3.2,xt3.ltT,xt3.leT])
  exact xt3
theorem rbytes_23 (σ : Heap) (dcc : x.cls = 23) (hw : x.Wf) (hm : mayI x L) : ACalls Try.prog 22 [.agg (itC x (.imm (L.map eI)))] σ (fun y σ' => y = .tup [.imm (bytesD (bodyI x L)), .sc (.int .i64 1)] ∧ Ext [] σ σ') := by
  have hmm := (may_23 dcc hw).1 hm
  obtain ⟨hwc, hwa, hwb, hwcc, hwu, hwbw, hwsu, hwho, hwan, hwal, hwno⟩ := hw
  have hps : ∀ p ∈ ([(4, 0), (4, x.u)] : List (Nat × Int)), pOk p := by
    simp [pOk] <;> omega
  have hbd : bodyI x L = ([(4, 0), (4, x.u)] : List (Nat × Int)).flatMap pD := by
    simp [bodyI, isL, dcc, stepsOf, btsL, bts, pD, Fs.get]
  rw [hbd]
  refine ACalls.code hT Try.func22 rfl ?_
  simp only [Try.ntmps22, List.length_cons, List.length_nil, Nat.reduceSub, Nat.reduceAdd, List.replicate, List.cons_append, List.nil_append]
  have x0 : Ext [] σ σ := Ext.refl _ _
  repeat ((fail_if_success (with_reducible refine AW.at1 (id := 1) ?_)); (fail_if_success (with_reducible refine AW.at2 (id := 1) ?_)); first | (with_reducible first | refine AW.seq ?_ | refine AW.block ?_ | refine AW.skip ?_ | refine AW.ret ?_ | refine AW.exit ?_ | refine AW.reg hT ?_) | ((with_reducible refine AW.cond_true ?_ ?_); · rfl) | ((with_reducible refine AW.cond_false ?_ ?_); · rfl) | simp (maxSteps := 3000000) (maxDischargeDepth := 12) only [seval,push_cast,appendX,Try.results22,itC,dcc])
  refine AW.name (fun σ1 hσ1 => ?_)
  have gtx1 : σ1.get σ.n = some (RtO x (.imm (L.map eI))) := by subst hσ1; simp (maxSteps := 3000000) (maxDischargeDepth := 12) only [push_cast, appendX, Nat.reduceAdd, Nat.reduceEqDiff, Nat.reduceLT, Nat.reduceLeDiff, reduceIte, reduceCtorEq, RtO, itC, dcc]
  have x01 : Ext [] σ σ1 := by subst hσ1; repeat (first | exact Ext.refl _ _ | assumption | refine Ext.push ?_ _ | ((refine Ext.set ?_ ?_ _); rotate_left; · (simp (maxSteps := 3000000) (maxDischargeDepth := 12) only [push_cast, appendX, Nat.reduceAdd, Nat.reduceEqDiff, Nat.reduceLT, Nat.reduceLeDiff, reduceIte, reduceCtorEq, dcc, gtx1, Heap.lt gtx1])) | ((refine Ext.then1 (by assumption) ?_ ?_); rotate_left; · (intro p hp _; first | assumption | exact List.mem_cons_of_mem _ hp | (cases hp; done) | (simp at hp; subst hp; simp))))
  clear hσ1
  generalize σ.n = p at gtx1 ⊢
  have gtx1 := gtx1
  repeat (first | (with_reducible first | refine AW.seq ?_ | refine AW.block ?_ | refine AW.skip ?_ | refine AW.ret ?_ | refine AW.exit ?_ | refine AW.reg hT ?_) | (with_reducible refine AW.drawn (id := 25) hT [1,2,3,0,4,5,6,7] [[],[],[1],[1,2],[0,1,2,3],[0,1,2,3,4],[0,1,2,3,4,5],[0,1,2,3,4,5,6]] mix (by kernel_rfl) ?_) | ((with_reducible show DLeft _ _ _ _ (_ :: _) _ _ _ _); (with_reducible apply DLeft.step hT); (case hoi => ((simp only [List.getElem?_toArray,List.getElem?_cons_zero,List.getElem?_cons_succ]); with_reducible rfl)); (case hg => rfl); (case hk => rfl); (case hr => ((try simp (maxSteps := 3000000) (maxDischargeDepth := 12) only [seval,push_cast,appendX,Try.results22,RtO,itC,eP,dcc,gtx1,Heap.lt gtx1]); with_reducible rfl))) | ((with_reducible refine AW.cond_true ?_ ?_); · rfl) | ((with_reducible refine AW.cond_false ?_ ?_); · rfl) | simp (maxSteps := 3000000) (maxDischargeDepth := 12) only [seval,push_cast,appendX,Try.results22,RtO,itC,eP,dcc,gtx1,Heap.lt gtx1])
  ((apply DLeft.call (f := 40) (first := []) (cap := [])); (case hoi => ((simp only [List.getElem?_toArray, List.getElem?_cons_zero, List.getElem?_cons_succ]); with_reducible rfl)); (case hg => rfl); (case ho => rfl); (case hc => rfl); (case hf => exact fn40); (case has => rfl)); refine ACalls.mono (rnum_ok _ 4 0 (by omega) (by omega)) ?_
  rintro y σ2 ⟨rfl, xt2⟩
  have gty2 := xt2.get gtx1 (by simp)
  have x02 := x01.trans xt2
  clear gtx1 xt2
  repeat (first | (with_reducible first | refine AW.seq ?_ | refine AW.block ?_ | refine AW.skip ?_ | refine AW.ret ?_ | refine AW.exit ?_ | refine AW.reg hT ?_) | (with_reducible refine AW.drawn (id := 25) hT [1,2,3,0,4,5,6,7] [[],[],[1],[1,2],[0,1,2,3],[0,1,2,3,4],[0,1,2,3,4,5],[0,1,2,3,4,5,6]] mix (by kernel_rfl) ?_) | ((with_reducible show DLeft _ _ _ _ (_ :: _) _ _ _ _); (with_reducible apply DLeft.step hT); (case hoi => ((simp only [List.getElem?_toArray,List.getElem?_cons_zero,List.getElem?_cons_succ]); with_reducible rfl)); (case hg => rfl); (case hk => rfl); (case hr => ((try simp (maxSteps := 3000000) (maxDischargeDepth := 12) only [seval,push_cast,appendX,Try.results22,RtO,itC,eP,dcc,gty2,Heap.lt gty2]); with_reducible rfl))) | ((with_reducible refine AW.cond_true ?_ ?_); · rfl) | ((with_reducible refine AW.cond_false ?_ ?_); · rfl) | simp (maxSteps := 3000000) (maxDischargeDepth := 12) only [seval,push_cast,appendX,Try.results22,RtO,itC,eP,dcc,gty2,Heap.lt gty2])
  ((apply DLeft.call (f := 38) (first := []) (cap := [])); (case hoi => ((simp only [List.getElem?_toArray, List.getElem?_cons_zero, List.getElem?_cons_succ]); with_reducible rfl)); (case hg => rfl); (case ho => rfl); (case hc => rfl); (case hf => exact fn38); (case has => rfl)); refine ACalls.mono (laidP [(4, 0), (4, x.u)] (n := 2) x02 hps (by simp) rfl) ?_
  rintro y σ3 ⟨rfl, xt3⟩
  repeat (first | (with_reducible first | refine AW.seq ?_ | refine AW.block ?_ | refine AW.skip ?_ | refine AW.ret ?_ | refine AW.exit ?_ | refine AW.reg hT ?_) | (with_reducible refine AW.drawn (id := 25) hT [1,2,3,0,4,5,6,7] [[],[],[1],[1,2],[0,1,2,3],[0,1,2,3,4],[0,1,2,3,4,5],[0,1,2,3,4,5,6]] mix (by kernel_rfl) ?_) | ((with_reducible show DLeft _ _ _ _ (_ :: _) _ _ _ _); (with_reducible apply DLeft.step hT); (case hoi => ((simp only [List.getElem?_toArray,List.getElem?_cons_zero,List.getElem?_cons_succ]); with_reducible rfl)); (case hg => rfl); (case hk => rfl); (case hr => ((try simp (maxSteps := 3000000) (maxDischargeDepth := 12) only [seval,push_cast,appendX,Try.results22,RtO,itC,eP,dcc,gty2,Heap.lt gty2,xt3.2,xt3.ltT,xt3.leT]); with_reducible rfl))) | ((with_reducible refine AW.cond_true ?_ ?_); · rfl) | ((with_reducible refine AW.cond_false ?_ ?_); · rfl) | simp (maxSteps := 3000000) (maxDischargeDepth := 12) only [seval,push_cast,appendX,Try.results22,RtO,itC,eP,dcc,gty2,Heap.lt gty2,xt3.2,xt3.ltT,xt3.leT])
  exact xt3
theorem rbytes_207 (σ : Heap) (dcc : x.cls = 207) (hw : x.Wf) (hm : mayI x L) : ACalls Try.prog 22 [.agg (itC x (.imm (L.map eI)))] σ (fun y σ' => y = .tup [.imm (bytesD (bodyI x L)), .sc (.int .i64 1)] ∧ Ext [] σ σ') := by
  have hmm := (may_207 dcc hw).1 hm
  obtain ⟨hwc, hwa, hwb, hwcc, hwu, hwbw, hwsu, hwho, hwan, hwal, hwno⟩ := hw
  have hps : ∀ p ∈ ([(4, x.no), (4, x.an), (4, x.al), (1, x.su), (1, x.ho), (2, 0)] : List (Nat × Int)), pOk p := by
    simp [pOk] <;> omega
  have hbd : bodyI x L = ([(4, x.no), (4, x.an), (4, x.al), (1, x.su), (1, x.ho), (2, 0)] : List (Nat × Int)).flatMap pD := by
    simp [bodyI, isL, dcc, stepsOf, btsL, bts, pD, Fs.get]
  rw [hbd]
  have dcwal : IntKind.u64.wrap x.al = x.al := wrap_u64 (by omega) (by omega)
  have dcwan : IntKind.u64.wrap x.an = x.an := wrap_u64 (by omega) (by omega)
  have dcwno : IntKind.u64.wrap x.no = x.no := wrap_u64 (by omega) (by omega)
  refine ACalls.code hT Try.func22 rfl ?_
  simp only [Try.ntmps22, List.length_cons, List.length_nil, Nat.reduceSub, Nat.reduceAdd, List.replicate, List.cons_append, List.nil_append]
  have x0 : Ext [] σ σ := Ext.refl _ _
  repeat ((fail_if_success (with_reducible refine AW.at1 (id := 27) ?_)); (fail_if_success (with_reducible refine AW.at2 (id := 27) ?_)); first | (with_reducible first | refine AW.seq ?_ | refine AW.block ?_ | refine AW.skip ?_ | refine AW.ret ?_ | refine AW.exit ?_ | refine AW.reg hT ?_) | ((with_reducible refine AW.cond_true ?_ ?_); · rfl) | ((with_reducible refine AW.cond_false ?_ ?_); · rfl) | simp (maxSteps := 3000000) (maxDischargeDepth := 12) only [seval,push_cast,appendX,Try.results22,itC,dcc,dcwal,dcwan,dcwno])
  refine AW.name (fun σ1 hσ1 => ?_)
  have gtw : σ1.get (σ.n + 1) = some ⟨[itPost x], 26, true⟩ := by subst hσ1; simp (maxSteps := 3000000) (maxDischargeDepth := 12) only [push_cast, appendX, Nat.reduceAdd, Nat.reduceEqDiff, Nat.reduceLT, Nat.reduceLeDiff, reduceIte, reduceCtorEq, itPost, dcc, dcwal, dcwan, dcwno]
  have x01 : Ext [] σ σ1 := by subst hσ1; repeat (first | exact Ext.refl _ _ | assumption | refine Ext.push ?_ _ | ((refine Ext.set ?_ ?_ _); rotate_left; · (simp (maxSteps := 3000000) (maxDischargeDepth := 12) only [push_cast, appendX, Nat.reduceAdd, Nat.reduceEqDiff, Nat.reduceLT, Nat.reduceLeDiff, reduceIte, reduceCtorEq, dcc, dcwal, dcwan, dcwno, gtw, Heap.lt gtw])) | ((refine Ext.then1 (by assumption) ?_ ?_); rotate_left; · (intro p hp _; first | assumption | exact List.mem_cons_of_mem _ hp | (cases hp; done) | (simp at hp; subst hp; simp))))
  clear hσ1
  repeat (first | (with_reducible first | refine AW.seq ?_ | refine AW.block ?_ | refine AW.skip ?_ | refine AW.ret ?_ | refine AW.exit ?_ | refine AW.reg hT ?_) | (with_reducible refine AW.drawn (id := 27) hT [0,1,2,3,4,5,6,7,8,9,10,11,12,13,15,16,14,17,18,19,20,21,22] [[],[0],[0,1],[0,1,2],[],[4],[4,5],[4,5,6],[],[8],[8,9],[8,9,10],[],[12],[12,13],[],[15],[12,13,14,15,16],[12,13,14,15,16,17],[0,1,2,3,4,5,6,7,8,9,10,11,12,13,14,15,16,17,18],[0,1,2,3,4,5,6,7,8,9,10,11,12,13,14,15,16,17,18,19],[0,1,2,3,4,5,6,7,8,9,10,11,12,13,14,15,16,17,18,19,20],[0,1,2,3,4,5,6,7,8,9,10,11,12,13,14,15,16,17,18,19,20,21]] mix (by kernel_rfl) ?_) | ((with_reducible show DLeft _ _ _ _ (_ :: _) _ _ _ _); (with_reducible apply DLeft.step hT); (case hoi => ((simp only [List.getElem?_toArray,List.getElem?_cons_zero,List.getElem?_cons_succ]); with_reducible rfl)); (case hg => rfl); (case hk => rfl); (case hr => ((try simp (maxSteps := 3000000) (maxDischargeDepth := 12) only [seval,push_cast,appendX,Try.results22,itPost,eP,dcc,dcwal,dcwan,dcwno,gtw,Heap.lt gtw]); with_reducible rfl))) | ((with_reducible refine AW.cond_true ?_ ?_); · rfl) | ((with_reducible refine AW.cond_false ?_ ?_); · rfl) | simp (maxSteps := 3000000) (maxDischargeDepth := 12) only [seval,push_cast,appendX,Try.results22,itPost,eP,dcc,dcwal,dcwan,dcwno,gtw,Heap.lt gtw])
  ((apply DLeft.call (f := 40) (first := []) (cap := [])); (case hoi => ((simp only [List.getElem?_toArray, List.getElem?_cons_zero, List.getElem?_cons_succ]); with_reducible rfl)); (case hg => rfl); (case ho => rfl); (case hc => rfl); (case hf => exact fn40); (case has => rfl)); refine ACalls.mono (rnum_ok _ 1 x.su (by omega) (by omega)) ?_
  rintro y σ2 ⟨rfl, xt2⟩
  have gty2 := xt2.get gtw (by simp)
  have x02 := x01.trans xt2
  clear gtw xt2
  repeat (first | (with_reducible first | refine AW.seq ?_ | refine AW.block ?_ | refine AW.skip ?_ | refine AW.ret ?_ | refine AW.exit ?_ | refine AW.reg hT ?_) | (with_reducible refine AW.drawn (id := 27) hT [0,1,2,3,4,5,6,7,8,9,10,11,12,13,15,16,14,17,18,19,20,21,22] [[],[0],[0,1],[0,1,2],[],[4],[4,5],[4,5,6],[],[8],[8,9],[8,9,10],[],[12],[12,13],[],[15],[12,13,14,15,16],[12,13,14,15,16,17],[0,1,2,3,4,5,6,7,8,9,10,11,12,13,14,15,16,17,18],[0,1,2,3,4,5,6,7,8,9,10,11,12,13,14,15,16,17,18,19],[0,1,2,3,4,5,6,7,8,9,10,11,12,13,14,15,16,17,18,19,20],[0,1,2,3,4,5,6,7,8,9,10,11,12,13,14,15,16,17,18,19,20,21]] mix (by kernel_rfl) ?_) | ((with_reducible show DLeft _ _ _ _ (_ :: _) _ _ _ _); (with_reducible apply DLeft.step hT); (case hoi => ((simp only [List.getElem?_toArray,List.getElem?_cons_zero,List.getElem?_cons_succ]); with_reducible rfl)); (case hg => rfl); (case hk => rfl); (case hr => ((try simp (maxSteps := 3000000) (maxDischargeDepth := 12) only [seval,push_cast,appendX,Try.results22,itPost,eP,dcc,dcwal,dcwan,dcwno,gty2,Heap.lt gty2]); with_reducible rfl))) | ((with_reducible refine AW.cond_true ?_ ?_); · rfl) | ((with_reducible refine AW.cond_false ?_ ?_); · rfl) | simp (maxSteps := 3000000) (maxDischargeDepth := 12) only [seval,push_cast,appendX,Try.results22,itPost,eP,dcc,dcwal,dcwan,dcwno,gty2,Heap.lt gty2])
  ((apply DLeft.call (f := 40) (first := []) (cap := [])); (case hoi => ((simp only [List.getElem?_toArray, List.getElem?_cons_zero, List.getElem?_cons_succ]); with_reducible rfl)); (case hg => rfl); (case ho => rfl); (case hc => rfl); (case hf => exact fn40); (case has => rfl)); refine ACalls.mono (rnum_ok _ 1 x.ho (by omega) (by omega)) ?_
  rintro y σ3 ⟨rfl, xt3⟩
  have gty3 := xt3.get gty2 (by simp)
  have x03 := x02.trans xt3
  clear gty2 xt3
  repeat (first | (with_reducible first | refine AW.seq ?_ | refine AW.block ?_ | refine AW.skip ?_ | refine AW.ret ?_ | refine AW.exit ?_ | refine AW.reg hT ?_) | (with_reducible refine AW.drawn (id := 27) hT [0,1,2,3,4,5,6,7,8,9,10,11,12,13,15,16,14,17,18,19,20,21,22] [[],[0],[0,1],[0,1,2],[],[4],[4,5],[4,5,6],[],[8],[8,9],[8,9,10],[],[12],[12,13],[],[15],[12,13,14,15,16],[12,13,14,15,16,17],[0,1,2,3,4,5,6,7,8,9,10,11,12,13,14,15,16,17,18],[0,1,2,3,4,5,6,7,8,9,10,11,12,13,14,15,16,17,18,19],[0,1,2,3,4,5,6,7,8,9,10,11,12,13,14,15,16,17,18,19,20],[0,1,2,3,4,5,6,7,8,9,10,11,12,13,14,15,16,17,18,19,20,21]] mix (by kernel_rfl) ?_) | ((with_reducible show DLeft _ _ _ _ (_ :: _) _ _ _ _); (with_reducible apply DLeft.step hT); (case hoi => ((simp only [List.getElem?_toArray,List.getElem?_cons_zero,List.getElem?_cons_succ]); with_reducible rfl)); (case hg => rfl); (case hk => rfl); (case hr => ((try simp (maxSteps := 3000000) (maxDischargeDepth := 12) only [seval,push_cast,appendX,Try.results22,itPost,eP,dcc,dcwal,dcwan,dcwno,gty3,Heap.lt gty3]); with_reducible rfl))) | ((with_reducible refine AW.cond_true ?_ ?_); · rfl) | ((with_reducible refine AW.cond_false ?_ ?_); · rfl) | simp (maxSteps := 3000000) (maxDischargeDepth := 12) only [seval,push_cast,appendX,Try.results22,itPost,eP,dcc,dcwal,dcwan,dcwno,gty3,Heap.lt gty3])
  ((apply DLeft.call (f := 40) (first := []) (cap := [])); (case hoi => ((simp only [List.getElem?_toArray, List.getElem?_cons_zero, List.getElem?_cons_succ]); with_reducible rfl)); (case hg => rfl); (case ho => rfl); (case hc => rfl); (case hf => exact fn40); (case has => rfl)); refine ACalls.mono (rnum_ok _ 2 0 (by omega) (by omega)) ?_
  rintro y σ4 ⟨rfl, xt4⟩
  have gty4 := xt4.get gty3 (by simp)
  have x04 := x03.trans xt4
  clear gty3 xt4
  repeat (first | (with_reducible first | refine AW.seq ?_ | refine AW.block ?_ | refine AW.skip ?_ | refine AW.ret ?_ | refine AW.exit ?_ | refine AW.reg hT ?_) | (with_reducible refine AW.drawn (id := 27) hT [0,1,2,3,4,5,6,7,8,9,10,11,12,13,15,16,14,17,18,19,20,21,22] [[],[0],[0,1],[0,1,2],[],[4],[4,5],[4,5,6],[],[8],[8,9],[8,9,10],[],[12],[12,13],[],[15],[12,13,14,15,16],[12,13,14,15,16,17],[0,1,2,3,4,5,6,7,8,9,10,11,12,13,14,15,16,17,18],[0,1,2,3,4,5,6,7,8,9,10,11,12,13,14,15,16,17,18,19],[0,1,2,3,4,5,6,7,8,9,10,11,12,13,14,15,16,17,18,19,20],[0,1,2,3,4,5,6,7,8,9,10,11,12,13,14,15,16,17,18,19,20,21]] mix (by kernel_rfl) ?_) | ((with_reducible show DLeft _ _ _ _ (_ :: _) _ _ _ _); (with_reducible apply DLeft.step hT); (case hoi => ((simp only [List.getElem?_toArray,List.getElem?_cons_zero,List.getElem?_cons_succ]); with_reducible rfl)); (case hg => rfl); (case hk => rfl); (case hr => ((try simp (maxSteps := 3000000) (maxDischargeDepth := 12) only [seval,push_cast,appendX,Try.results22,itPost,eP,dcc,dcwal,dcwan,dcwno,gty4,Heap.lt gty4]); with_reducible rfl))) | ((with_reducible refine AW.cond_true ?_ ?_); · rfl) | ((with_reducible refine AW.cond_false ?_ ?_); · rfl) | simp (maxSteps := 3000000) (maxDischargeDepth := 12) only [seval,push_cast,appendX,Try.results22,itPost,eP,dcc,dcwal,dcwan,dcwno,gty4,Heap.lt gty4])
  ((apply DLeft.call (f := 38) (first := []) (cap := [])); (case hoi => ((simp only [List.getElem?_toArray, List.getElem?_cons_zero, List.getElem?_cons_succ]); with_reducible rfl)); (case hg => rfl); (case ho => rfl); (case hc => rfl); (case hf => exact fn38); (case has => rfl)); refine ACalls.mono (laidP [(4, x.no), (4, x.an), (4, x.al), (1, x.su), (1, x.ho), (2, 0)] (n := 6) x04 hps (by simp) rfl) ?_
  rintro y σ5 ⟨rfl, xt5⟩
  repeat (first | (with_reducible first | refine AW.seq ?_ | refine AW.block ?_ | refine AW.skip ?_ | refine AW.ret ?_ | refine AW.exit ?_ | refine AW.reg hT ?_) | (with_reducible refine AW.drawn (id := 27) hT [0,1,2,3,4,5,6,7,8,9,10,11,12,13,15,16,14,17,18,19,20,21,22] [[],[0],[0,1],[0,1,2],[],[4],[4,5],[4,5,6],[],[8],[8,9],[8,9,10],[],[12],[12,13],[],[15],[12,13,14,15,16],[12,13,14,15,16,17],[0,1,2,3,4,5,6,7,8,9,10,11,12,13,14,15,16,17,18],[0,1,2,3,4,5,6,7,8,9,10,11,12,13,14,15,16,17,18,19],[0,1,2,3,4,5,6,7,8,9,10,11,12,13,14,15,16,17,18,19,20],[0,1,2,3,4,5,6,7,8,9,10,11,12,13,14,15,16,17,18,19,20,21]] mix (by kernel_rfl) ?_) | ((with_reducible show DLeft _ _ _ _ (_ :: _) _ _ _ _); (with_reducible apply DLeft.step hT); (case hoi => ((simp only [List.getElem?_toArray,List.getElem?_cons_zero,List.getElem?_cons_succ]); with_reducible rfl)); (case hg => rfl); (case hk => rfl); (case hr => ((try simp (maxSteps := 3000000) (maxDischargeDepth := 12) only [seval,push_cast,appendX,Try.results22,itPost,eP,dcc,dcwal,dcwan,dcwno,gty4,Heap.lt gty4,xt5.2,xt5.ltT,xt5.leT]); with_reducible rfl))) | ((with_reducible refine AW.cond_true ?_ ?_); · rfl) | ((with_reducible refine AW.cond_false ?_ ?_); · rfl) | simp (maxSteps := 3000000) (maxDischargeDepth := 12) only [seval,push_cast,appendX,Try.results22,itPost,eP,dcc,dcwal,dcwan,dcwno,gty4,Heap.lt gty4,xt5.2,xt5.ltT,xt5.leT])
  exact xt5
theorem rbytes_20 (σ : Heap) (dcc : x.cls = 20) (hw : x.Wf) (hm : mayI x L) : ACalls Try.prog 22 [.agg (itC x (.imm (L.map eI)))] σ (fun y σ' => y = .tup [.imm (bytesD (bodyI x L)), .sc (.int .i64 1)] ∧ Ext [] σ σ') := by
  have hmm := (may_20 dcc hw).1 hm
  have hbd : bodyI x L = (L.flatMap hopP).flatMap pD := by
    simp only [bodyI, isL, dcc]
    rw [if_pos (by simp), List.flatMap_assoc]
    simp [hopP, pD, hopB]
    rfl
  have hps : ∀ p ∈ L.flatMap hopP, pOk p := fun p hp => by
    obtain ⟨v, hv, hpv⟩ := List.mem_flatMap.1 hp
    have hb := hmm.2.2 v hv
    simp [hopP] at hpv
    rcases hpv with rfl | rfl | rfl <;> simp [pOk] <;> omega
  rw [hbd]
  refine ACalls.code hT Try.func22 rfl ?_
  simp only [Try.ntmps22, List.length_cons, List.length_nil, Nat.reduceSub, Nat.reduceAdd, List.replicate, List.cons_append, List.nil_append]
  repeat (first | (with_reducible first | refine AW.seq ?_ | refine AW.block ?_ | refine AW.skip ?_ | refine AW.ret ?_ | refine AW.exit ?_ | refine AW.reg hT ?_) | ((with_reducible refine AW.cond_true ?_ ?_); · rfl) | ((with_reducible refine AW.cond_false ?_ ?_); · rfl) | simp (maxSteps := 3000000) (maxDischargeDepth := 12) only [seval,push_cast,appendX,Try.results22,itC,dcc])
  refine AOpsL.call (first := []) (cap := []) hT rfl rfl rfl fn41 rfl (ACalls.mono (rhops_ok _ L hmm.2.2 hmm.2.1) ?_)
  rintro y σ2 ⟨rfl, xt2⟩
  repeat (first | (with_reducible first | refine AW.seq ?_ | refine AW.block ?_ | refine AW.skip ?_ | refine AW.ret ?_ | refine AW.exit ?_ | refine AW.reg hT ?_) | ((with_reducible refine AW.cond_true ?_ ?_); · rfl) | ((with_reducible refine AW.cond_false ?_ ?_); · rfl) | simp (maxSteps := 3000000) (maxDischargeDepth := 12) only [seval,push_cast,appendX,Try.results22,itC,dcc,xt2.2,xt2.ltT,xt2.leT])
  refine AOpsL.call (first := []) (cap := []) hT rfl rfl rfl fn38 rfl (ACalls.mono (laid_ok _ _ hps (by rw [hops_len3]; have := hmm.2.1; omega)) ?_)
  rintro y σ3 ⟨rfl, xt3⟩
  repeat (first | (with_reducible first | refine AW.seq ?_ | refine AW.block ?_ | refine AW.skip ?_ | refine AW.ret ?_ | refine AW.exit ?_ | refine AW.reg hT ?_) | ((with_reducible refine AW.cond_true ?_ ?_); · rfl) | ((with_reducible refine AW.cond_false ?_ ?_); · rfl) | simp (maxSteps := 3000000) (maxDischargeDepth := 12) only [seval,push_cast,appendX,Try.results22,itC,dcc,xt2.2,xt2.ltT,xt2.leT,xt3.2,xt3.ltT,xt3.leT])
  repeat (first | exact Ext.refl _ _ | assumption | refine Ext.push ?_ _ | ((refine Ext.set ?_ ?_ _); rotate_left; · (simp (maxSteps := 3000000) (maxDischargeDepth := 12) only [push_cast, appendX, Nat.reduceAdd, Nat.reduceEqDiff, Nat.reduceLT, Nat.reduceLeDiff, reduceIte, reduceCtorEq, dcc, xt2.2, xt2.ltT, xt2.leT, xt3.2, xt3.ltT, xt3.leT])) | ((refine Ext.then1 (by assumption) ?_ ?_); rotate_left; · (intro p hp _; first | assumption | exact List.mem_cons_of_mem _ hp | (cases hp; done) | (simp at hp; subst hp; simp))))
theorem rbytes_21 (σ : Heap) (dcc : x.cls = 21) (hw : x.Wf) (hm : mayI x L) : ACalls Try.prog 22 [.agg (itC x (.imm (L.map eI)))] σ (fun y σ' => y = .tup [.imm (bytesD (bodyI x L)), .sc (.int .i64 1)] ∧ Ext [] σ σ') := by
  have hmm := (may_21 dcc hw).1 hm
  have hbd : bodyI x L = (L.flatMap hopP).flatMap pD := by
    simp only [bodyI, isL, dcc]
    rw [if_pos (by simp), List.flatMap_assoc]
    simp [hopP, pD, hopB]
    rfl
  have hps : ∀ p ∈ L.flatMap hopP, pOk p := fun p hp => by
    obtain ⟨v, hv, hpv⟩ := List.mem_flatMap.1 hp
    have hb := hmm.2.2 v hv
    simp [hopP] at hpv
    rcases hpv with rfl | rfl | rfl <;> simp [pOk] <;> omega
  rw [hbd]
  refine ACalls.code hT Try.func22 rfl ?_
  simp only [Try.ntmps22, List.length_cons, List.length_nil, Nat.reduceSub, Nat.reduceAdd, List.replicate, List.cons_append, List.nil_append]
  repeat (first | (with_reducible first | refine AW.seq ?_ | refine AW.block ?_ | refine AW.skip ?_ | refine AW.ret ?_ | refine AW.exit ?_ | refine AW.reg hT ?_) | ((with_reducible refine AW.cond_true ?_ ?_); · rfl) | ((with_reducible refine AW.cond_false ?_ ?_); · rfl) | simp (maxSteps := 3000000) (maxDischargeDepth := 12) only [seval,push_cast,appendX,Try.results22,itC,dcc])
  refine AOpsL.call (first := []) (cap := []) hT rfl rfl rfl fn41 rfl (ACalls.mono (rhops_ok _ L hmm.2.2 hmm.2.1) ?_)
  rintro y σ2 ⟨rfl, xt2⟩
  repeat (first | (with_reducible first | refine AW.seq ?_ | refine AW.block ?_ | refine AW.skip ?_ | refine AW.ret ?_ | refine AW.exit ?_ | refine AW.reg hT ?_) | ((with_reducible refine AW.cond_true ?_ ?_); · rfl) | ((with_reducible refine AW.cond_false ?_ ?_); · rfl) | simp (maxSteps := 3000000) (maxDischargeDepth := 12) only [seval,push_cast,appendX,Try.results22,itC,dcc,xt2.2,xt2.ltT,xt2.leT])
  refine AOpsL.call (first := []) (cap := []) hT rfl rfl rfl fn38 rfl (ACalls.mono (laid_ok _ _ hps (by rw [hops_len3]; have := hmm.2.1; omega)) ?_)
  rintro y σ3 ⟨rfl, xt3⟩
  repeat (first | (with_reducible first | refine AW.seq ?_ | refine AW.block ?_ | refine AW.skip ?_ | refine AW.ret ?_ | refine AW.exit ?_ | refine AW.reg hT ?_) | ((with_reducible refine AW.cond_true ?_ ?_); · rfl) | ((with_reducible refine AW.cond_false ?_ ?_); · rfl) | simp (maxSteps := 3000000) (maxDischargeDepth := 12) only [seval,push_cast,appendX,Try.results22,itC,dcc,xt2.2,xt2.ltT,xt2.leT,xt3.2,xt3.ltT,xt3.leT])
  repeat (first | exact Ext.refl _ _ | assumption | refine Ext.push ?_ _ | ((refine Ext.set ?_ ?_ _); rotate_left; · (simp (maxSteps := 3000000) (maxDischargeDepth := 12) only [push_cast, appendX, Nat.reduceAdd, Nat.reduceEqDiff, Nat.reduceLT, Nat.reduceLeDiff, reduceIte, reduceCtorEq, dcc, xt2.2, xt2.ltT, xt2.leT, xt3.2, xt3.ltT, xt3.leT])) | ((refine Ext.then1 (by assumption) ?_ ?_); rotate_left; · (intro p hp _; first | assumption | exact List.mem_cons_of_mem _ hp | (cases hp; done) | (simp at hp; subst hp; simp))))
theorem rbytes_ok (σ : Heap) (hw : x.Wf) (hm : mayI x L) : ACalls Try.prog 22 [.agg (itC x (.imm (L.map eI)))] σ (fun y σ' => y = .tup [.imm (bytesD (bodyI x L)), .sc (.int .i64 (kindI x.cls))] ∧ Ext [] σ σ') := by
  by_cases h1 : x.cls = 1
  · rw [show kindI x.cls = 7 by rw [h1]; rfl]; exact rbytes_1 σ h1 hw hm
  by_cases h3 : x.cls = 3
  · rw [show kindI x.cls = 1 by rw [h3]; rfl]; exact rbytes_3 σ h3 hw hm
  by_cases h5 : x.cls = 5
  · rw [show kindI x.cls = 1 by rw [h5]; rfl]; exact rbytes_5 σ h5 hw hm
  by_cases h6 : x.cls = 6
  · rw [show kindI x.cls = 1 by rw [h6]; rfl]; exact rbytes_6 σ h6 hw hm
  by_cases h8 : x.cls = 8
  · rw [show kindI x.cls = 1 by rw [h8]; rfl]; exact rbytes_8 σ h8 hw hm
  by_cases h9 : x.cls = 9
  · rw [show kindI x.cls = 2 by rw [h9]; rfl]; exact rbytes_9 σ h9 hw hm
  by_cases h12 : x.cls = 12
  · rw [show kindI x.cls = 2 by rw [h12]; rfl]; exact rbytes_12 σ h12 hw hm
  by_cases h10 : x.cls = 10
  · rw [show kindI x.cls = 7 by rw [h10]; rfl]; exact rbytes_10 σ h10 hw hm
  by_cases h11 : x.cls = 11
  · rw [show kindI x.cls = 7 by rw [h11]; rfl]; exact rbytes_11 σ h11 hw hm
  by_cases h16 : x.cls = 16
  · rw [show kindI x.cls = 1 by rw [h16]; rfl]; exact rbytes_16 σ h16 hw hm
  by_cases h19 : x.cls = 19
  · rw [show kindI x.cls = 1 by rw [h19]; rfl]; exact rbytes_19 σ h19 hw hm
  by_cases h23 : x.cls = 23
  · rw [show kindI x.cls = 1 by rw [h23]; rfl]; exact rbytes_23 σ h23 hw hm
  by_cases h207 : x.cls = 207
  · rw [show kindI x.cls = 1 by rw [h207]; rfl]; exact rbytes_207 σ h207 hw hm
  by_cases h20 : x.cls = 20
  · rw [show kindI x.cls = 1 by rw [h20]; rfl]; exact rbytes_20 σ h20 hw hm
  by_cases h21 : x.cls = 21
  · rw [show kindI x.cls = 1 by rw [h21]; rfl]; exact rbytes_21 σ h21 hw hm
  exfalso
  rcases hm with ⟨h, _⟩ | ⟨h, _⟩
  · simp only [isL] at h; omega
  · simp only [known] at h; omega
theorem rPack_ok (σ : Heap) (hw : x.Wf) (hL : L.length ≤ 1000000) {c k e : Int} {b : List Int} (hp : packA x L = (c, k, b, e)) : ACalls Try.prog 11 [.agg (itC x (.imm (L.map eI)))] σ (fun y σ' => y = .tup [.agg (oC c k b), .sc (.int .i64 e)] ∧ Ext [] σ σ') := by
  refine ACalls.tells ?_
  refine ACalls.code hT Try.func11 rfl ?_
  simp only [Try.ntmps11, List.length_cons, List.length_nil, Nat.reduceSub, Nat.reduceAdd, List.replicate, List.cons_append, List.nil_append]
  repeat (first | (with_reducible first | refine AW.seq ?_ | refine AW.block ?_ | refine AW.skip ?_ | refine AW.ret ?_ | refine AW.exit ?_ | refine AW.reg hT ?_) | ((with_reducible refine AW.cond_true ?_ ?_); · rfl) | ((with_reducible refine AW.cond_false ?_ ?_); · rfl) | simp (maxSteps := 3000000) (maxDischargeDepth := 12) only [seval,push_cast,appendX,Try.results11,itC])
  refine AOpsL.call (first := []) (cap := []) hT rfl rfl rfl fn21 rfl (ACalls.mono (rMay_ok _ hw hL) ?_)
  rintro y σ2 ⟨xt2, m, rfl, hm⟩
  cases m with
  | false =>
    have hno : ¬ mayI x L := fun h => by have := hm.2 h; cases this
    rw [pack_no hno] at hp
    cases hp
    repeat (first | (with_reducible first | refine AW.seq ?_ | refine AW.block ?_ | refine AW.skip ?_ | refine AW.ret ?_ | refine AW.exit ?_ | refine AW.reg hT ?_) | ((with_reducible refine AW.cond_true ?_ ?_); · rfl) | ((with_reducible refine AW.cond_false ?_ ?_); · rfl) | simp (maxSteps := 3000000) (maxDischargeDepth := 12) only [seval,push_cast,appendX,Try.results11,itC,xt2.2,xt2.ltT,xt2.leT])
    exact ⟨.tup [.agg (oC 0 0 []), .sc (.int .i64 2)], Tells.tup ⟨Tells.agg ⟨Tells.refl _, Tells.refl _, Tells.nil, trivial⟩, Tells.refl _, trivial⟩, rfl, by repeat (first | exact Ext.refl _ _ | assumption | refine Ext.push ?_ _ | ((refine Ext.set ?_ ?_ _); rotate_left; · (simp (maxSteps := 3000000) (maxDischargeDepth := 12) only [push_cast, appendX, Nat.reduceAdd, Nat.reduceEqDiff, Nat.reduceLT, Nat.reduceLeDiff, reduceIte, reduceCtorEq, xt2.2, xt2.ltT, xt2.leT])) | ((refine Ext.then1 (by assumption) ?_ ?_); rotate_left; · (intro p hp _; first | assumption | exact List.mem_cons_of_mem _ hp | (cases hp; done) | (simp at hp; subst hp; simp))))⟩
  | true =>
    have hy : mayI x L := hm.1 rfl
    rw [pack_may hy] at hp
    cases hp
    repeat (first | (with_reducible first | refine AW.seq ?_ | refine AW.block ?_ | refine AW.skip ?_ | refine AW.ret ?_ | refine AW.exit ?_ | refine AW.reg hT ?_) | ((with_reducible refine AW.cond_true ?_ ?_); · rfl) | ((with_reducible refine AW.cond_false ?_ ?_); · rfl) | simp (maxSteps := 3000000) (maxDischargeDepth := 12) only [seval,push_cast,appendX,Try.results11,itC,xt2.2,xt2.ltT,xt2.leT])
    refine AOpsL.call (first := []) (cap := []) hT rfl rfl rfl fn22 rfl (ACalls.mono (rbytes_ok _ hw hy) ?_)
    rintro y σ3 ⟨rfl, xt3⟩
    repeat (first | (with_reducible first | refine AW.seq ?_ | refine AW.block ?_ | refine AW.skip ?_ | refine AW.ret ?_ | refine AW.exit ?_ | refine AW.reg hT ?_) | ((with_reducible refine AW.cond_true ?_ ?_); · rfl) | ((with_reducible refine AW.cond_false ?_ ?_); · rfl) | simp (maxSteps := 3000000) (maxDischargeDepth := 12) only [seval,push_cast,appendX,Try.results11,itC,xt2.2,xt2.ltT,xt2.leT,xt3.2,xt3.ltT,xt3.leT])
    exact ⟨_, Tells.refl _, rfl, by repeat (first | exact Ext.refl _ _ | assumption | refine Ext.push ?_ _ | ((refine Ext.set ?_ ?_ _); rotate_left; · (simp (maxSteps := 3000000) (maxDischargeDepth := 12) only [push_cast, appendX, Nat.reduceAdd, Nat.reduceEqDiff, Nat.reduceLT, Nat.reduceLeDiff, reduceIte, reduceCtorEq, xt2.2, xt2.ltT, xt2.leT, xt3.2, xt3.ltT, xt3.leT])) | ((refine Ext.then1 (by assumption) ?_ ?_); rotate_left; · (intro p hp _; first | assumption | exact List.mem_cons_of_mem _ hp | (cases hp; done) | (simp at hp; subst hp; simp))))⟩
end
theorem packs_ok (x : It) (hx : wR x) : ACalls Try.prog 3 [.agg (eR x)] ⟨[]⟩ (fun r _ => r = .sc (.bool true)) := by
  have hwx := wR_wf hx
  generalize hσ : (⟨[]⟩ : Heap) = σ
  simp only [eR_eq]
  generalize fsR x = X at hwx ⊢
  generalize x.f5 = L
  clear hx x
  have del : (L.map eI).length = L.length := List.length_map ..
  refine ACalls.code hT Try.func3 rfl ?_
  simp only [Try.ntmps3, List.length_cons, List.length_nil, Nat.reduceSub, Nat.reduceAdd, List.replicate, List.cons_append, List.nil_append]
  repeat ((fail_if_success (with_reducible refine AW.at1 (id := 1) ?_)); (fail_if_success (with_reducible refine AW.at2 (id := 1) ?_)); first | (with_reducible first | refine AW.seq ?_ | refine AW.block ?_ | refine AW.skip ?_ | refine AW.ret ?_ | refine AW.exit ?_ | refine AW.reg hT ?_) | ((with_reducible refine AW.cond_true ?_ ?_); · rfl) | ((with_reducible refine AW.cond_false ?_ ?_); · rfl) | simp (maxSteps := 3000000) (maxDischargeDepth := 12) only [seval,push_cast,appendX,Try.results3,itC_len,itC_take,itC_d5,itC_leaf])
  refine AW.name (fun σ1 hσ1 => ?_)
  have gtx : σ1.get σ.n = some (RtO X (.imm (L.map eI))) := by subst hσ1; simp (maxSteps := 3000000) (maxDischargeDepth := 12) only [push_cast, appendX, Nat.reduceAdd, Nat.reduceEqDiff, Nat.reduceLT, Nat.reduceLeDiff, reduceIte, reduceCtorEq, RtO]
  clear hσ1 hσ
  generalize σ.n = p at gtx ⊢
  have gtx := gtx
  repeat (first | (with_reducible first | refine AW.seq ?_ | refine AW.block ?_ | refine AW.skip ?_ | refine AW.ret ?_ | refine AW.exit ?_ | refine AW.reg hT ?_) | ((with_reducible refine AW.cond_true ?_ ?_); · rfl) | ((with_reducible refine AW.cond_false ?_ ?_); · rfl) | simp (maxSteps := 3000000) (maxDischargeDepth := 12) only [seval,push_cast,appendX,Try.results3,RtO,gtx,Heap.lt gtx])
  refine AOpsL.call (first := []) (cap := []) hT rfl rfl rfl fn8 rfl (ACalls.mono (alive_ok _) ?_)
  rintro r σ2 ⟨rfl, xt2⟩
  have gtx2 := xt2.get gtx (by simp)
  clear xt2 gtx
  by_cases h1 : 6000 < L.length
  · have dc1 : decide (6000 < (L.length : Int)) = true := decide_eq_true (by omega)
    repeat (first | (with_reducible first | refine AW.seq ?_ | refine AW.block ?_ | refine AW.skip ?_ | refine AW.ret ?_ | refine AW.exit ?_ | refine AW.reg hT ?_) | ((with_reducible refine AW.cond_true ?_ ?_); · rfl) | ((with_reducible refine AW.cond_false ?_ ?_); · rfl) | simp (maxSteps := 3000000) (maxDischargeDepth := 12) only [seval,push_cast,appendX,Try.results3,RtO,itC_len,itC_d5,del,gtx2,Heap.lt gtx2,dc1])
  have dc1 : decide (6000 < (L.length : Int)) = false := decide_eq_false (by omega)
  obtain ⟨c, k, b, e, hp, ho, _, hc⟩ := pack_cases X L
  repeat (first | (with_reducible first | refine AW.seq ?_ | refine AW.block ?_ | refine AW.skip ?_ | refine AW.ret ?_ | refine AW.exit ?_ | refine AW.reg hT ?_) | ((with_reducible refine AW.cond_true ?_ ?_); · rfl) | ((with_reducible refine AW.cond_false ?_ ?_); · rfl) | simp (maxSteps := 3000000) (maxDischargeDepth := 12) only [seval,push_cast,appendX,Try.results3,RtO,itC_len,itC_take,itC_d5,itC_leaf,del,gtx2,Heap.lt gtx2,dc1])
  refine AOpsL.call (first := []) (cap := []) hT rfl rfl rfl fn10 rfl (ACalls.mono (ltheirs_ok _ X rfl rfl) ?_)
  rintro r σ3 ⟨rfl, xt3⟩
  repeat (first | (with_reducible first | refine AW.seq ?_ | refine AW.block ?_ | refine AW.skip ?_ | refine AW.ret ?_ | refine AW.exit ?_ | refine AW.reg hT ?_) | ((with_reducible refine AW.cond_true ?_ ?_); · rfl) | ((with_reducible refine AW.cond_false ?_ ?_); · rfl) | simp (maxSteps := 3000000) (maxDischargeDepth := 12) only [seval,push_cast,appendX,Try.results3,gtx2,Heap.lt gtx2,dc1,xt3.2,xt3.ltT,xt3.leT])
  refine AOpsL.call (first := []) (cap := []) hT rfl rfl rfl fn9 rfl (ACalls.mono (packE_ok _ hwx (by omega) hp) ?_)
  rintro r σ4 ⟨rfl, xt4⟩
  have gtx4 := xt4.get (xt3.get gtx2 (by simp)) (by simp)
  clear xt3 xt4 gtx2
  repeat ((fail_if_success (with_reducible refine AW.at1 (id := 6) ?_)); (fail_if_success (with_reducible refine AW.at2 (id := 6) ?_)); first | (with_reducible first | refine AW.seq ?_ | refine AW.block ?_ | refine AW.skip ?_ | refine AW.ret ?_ | refine AW.exit ?_ | refine AW.reg hT ?_) | ((with_reducible refine AW.cond_true ?_ ?_); · rfl) | ((with_reducible refine AW.cond_false ?_ ?_); · rfl) | simp (maxSteps := 3000000) (maxDischargeDepth := 12) only [seval,push_cast,appendX,Try.results3,oC,dc1,gtx4,Heap.lt gtx4])
  refine AW.name (fun σ5 hσ5 => ?_)
  have gtx5 : σ5.get p = some (RtO X (.imm (L.map eI))) := by subst hσ5; simp (maxSteps := 3000000) (maxDischargeDepth := 12) only [push_cast, appendX, Nat.reduceAdd, Nat.reduceEqDiff, Nat.reduceLT, Nat.reduceLeDiff, reduceIte, reduceCtorEq, dc1, gtx4, Heap.lt gtx4]
  have gta5 : σ5.get σ4.n = some ⟨[oC c k b], 32, true⟩ := by subst hσ5; simp (maxSteps := 3000000) (maxDischargeDepth := 12) only [push_cast, appendX, Nat.reduceAdd, Nat.reduceEqDiff, Nat.reduceLT, Nat.reduceLeDiff, reduceIte, reduceCtorEq, oC, dc1, gtx4, Heap.lt gtx4, gtx5, Heap.lt gtx5]
  clear hσ5 gtx4
  generalize σ4.n = r at gta5 ⊢
  have gta5 := gta5
  refine AW.told (ts' := (.any :: .ptr p 0 0 1 :: .any :: .ptr r 0 0 1 :: .sc (.int .i64 e) :: .any :: .any :: .any :: .any :: .any :: .any :: .any :: .any :: .any :: .any :: .any :: .any :: .any :: .any :: .any :: .any :: .any :: .any :: .any :: .any :: .any :: .any :: .any :: .any :: .any :: .any :: .any :: .any :: [])) (by (simp only [push_cast, TellsL, tells_any, tells_refl])) ?_
  repeat (first | (with_reducible first | refine AW.seq ?_ | refine AW.block ?_ | refine AW.skip ?_ | refine AW.ret ?_ | refine AW.exit ?_ | refine AW.reg hT ?_) | ((with_reducible refine AW.cond_true ?_ ?_); · rfl) | ((with_reducible refine AW.cond_false ?_ ?_); · rfl) | simp (maxSteps := 3000000) (maxDischargeDepth := 12) only [seval,push_cast,appendX,Try.results3,RtO,itC_len,itC_take,itC_leaf,dc1,gtx5,Heap.lt gtx5,gta5,Heap.lt gta5])
  refine AOpsL.call (first := []) (cap := []) hT rfl rfl rfl fn11 rfl (ACalls.mono (rPack_ok _ hwx (by omega) hp) ?_)
  rintro r1 σ6 ⟨rfl, xt6⟩
  have gta6 := xt6.get gta5 (by simp)
  clear xt6 gta5 gtx5
  repeat ((fail_if_success (with_reducible refine AW.at1 (id := 7) ?_)); (fail_if_success (with_reducible refine AW.at2 (id := 7) ?_)); first | (with_reducible first | refine AW.seq ?_ | refine AW.block ?_ | refine AW.skip ?_ | refine AW.ret ?_ | refine AW.exit ?_ | refine AW.reg hT ?_) | ((with_reducible refine AW.cond_true ?_ ?_); · rfl) | ((with_reducible refine AW.cond_false ?_ ?_); · rfl) | simp (maxSteps := 3000000) (maxDischargeDepth := 12) only [seval,push_cast,appendX,Try.results3,oC,dc1,gta6,Heap.lt gta6])
  refine AW.name (fun σ7 hσ7 => ?_)
  have gta7 : σ7.get r = some ⟨[oC c k b], 32, true⟩ := by subst hσ7; simp (maxSteps := 3000000) (maxDischargeDepth := 12) only [push_cast, appendX, Nat.reduceAdd, Nat.reduceEqDiff, Nat.reduceLT, Nat.reduceLeDiff, reduceIte, reduceCtorEq, dc1, gta6, Heap.lt gta6]
  have gtb7 : σ7.get σ6.n = some ⟨[oC c k b], 38, true⟩ := by subst hσ7; simp (maxSteps := 3000000) (maxDischargeDepth := 12) only [push_cast, appendX, Nat.reduceAdd, Nat.reduceEqDiff, Nat.reduceLT, Nat.reduceLeDiff, reduceIte, reduceCtorEq, oC, dc1, gta6, Heap.lt gta6, gta7, Heap.lt gta7]
  clear hσ7 gta6
  generalize σ6.n = s at gtb7 ⊢
  have gtb7 := gtb7
  refine AW.told (ts' := (.any :: .any :: .any :: .ptr r 0 0 1 :: .sc (.int .i64 e) :: .ptr s 0 0 1 :: .sc (.int .i64 e) :: .any :: .any :: .any :: .any :: .any :: .any :: .any :: .any :: .any :: .any :: .any :: .any :: .any :: .any :: .any :: .any :: .any :: .any :: .any :: .any :: .any :: .any :: .any :: .any :: .any :: .any :: [])) (by (simp only [push_cast, TellsL, tells_any, tells_refl])) ?_
  repeat (first | (with_reducible first | refine AW.seq ?_ | refine AW.block ?_ | refine AW.skip ?_ | refine AW.ret ?_ | refine AW.exit ?_ | refine AW.reg hT ?_) | (with_reducible refine AW.drawn (id := 7) hT [0,2,1,3,4,5,6,7,8,9] [[],[0],[],[0,1,2],[0,1,2,3],[0,1,2,3,4],[0,1,2,3,4],[0,1,2,3,4,5,6],[0,1,2,3,4,5,6,7],[0,1,2,3,4,5,6,7,8]] mix (by kernel_rfl) ?_) | ((with_reducible show DLeft _ _ _ _ (_ :: _) _ _ _ _); (with_reducible apply DLeft.step hT); (case hoi => ((simp only [List.getElem?_toArray,List.getElem?_cons_zero,List.getElem?_cons_succ]); with_reducible rfl)); (case hg => rfl); (case hk => rfl); (case hr => ((try simp (maxSteps := 3000000) (maxDischargeDepth := 12) only [seval,push_cast,appendX,Try.results3,oC,dc1,gta7,Heap.lt gta7,gtb7,Heap.lt gtb7]); with_reducible rfl))) | ((with_reducible refine AW.cond_true ?_ ?_); · rfl) | ((with_reducible refine AW.cond_false ?_ ?_); · rfl) | simp (maxSteps := 3000000) (maxDischargeDepth := 12) only [seval,push_cast,appendX,Try.results3,oC,dc1,gta7,Heap.lt gta7,gtb7,Heap.lt gtb7])
  ((apply DLeft.call (f := 13) (first := []) (cap := [])); (case hoi => ((simp only [List.getElem?_toArray, List.getElem?_cons_zero, List.getElem?_cons_succ]); with_reducible rfl)); (case hg => rfl); (case ho => rfl); (case hc => rfl); (case hf => exact fn13); (case has => rfl)); refine ACalls.mono (oours_ok _ c k rfl rfl) ?_
  rintro r1 σ8 ⟨rfl, xt8⟩
  have gtb8 := xt8.get gtb7 (by simp)
  clear gta7 gtb7 xt8
  repeat (first | (with_reducible first | refine AW.seq ?_ | refine AW.block ?_ | refine AW.skip ?_ | refine AW.ret ?_ | refine AW.exit ?_ | refine AW.reg hT ?_) | (with_reducible refine AW.drawn (id := 7) hT [0,2,1,3,4,5,6,7,8,9] [[],[0],[],[0,1,2],[0,1,2,3],[0,1,2,3,4],[0,1,2,3,4],[0,1,2,3,4,5,6],[0,1,2,3,4,5,6,7],[0,1,2,3,4,5,6,7,8]] mix (by kernel_rfl) ?_) | ((with_reducible show DLeft _ _ _ _ (_ :: _) _ _ _ _); (with_reducible apply DLeft.step hT); (case hoi => ((simp only [List.getElem?_toArray,List.getElem?_cons_zero,List.getElem?_cons_succ]); with_reducible rfl)); (case hg => rfl); (case hk => rfl); (case hr => ((try simp (maxSteps := 3000000) (maxDischargeDepth := 12) only [seval,push_cast,appendX,Try.results3,oC,dc1,gtb8,Heap.lt gtb8]); with_reducible rfl))) | ((with_reducible refine AW.cond_true ?_ ?_); · rfl) | ((with_reducible refine AW.cond_false ?_ ?_); · rfl) | simp (maxSteps := 3000000) (maxDischargeDepth := 12) only [seval,push_cast,appendX,Try.results3,oC,dc1,gtb8,Heap.lt gtb8])
  ((apply DLeft.call (f := 12) (first := []) (cap := [])); (case hoi => ((simp only [List.getElem?_toArray, List.getElem?_cons_zero, List.getElem?_cons_succ]); with_reducible rfl)); (case hg => rfl); (case ho => rfl); (case hc => rfl); (case hf => exact fn12); (case has => rfl)); refine ACalls.mono (lsame_ok _ ho ho) ?_
  rintro r1 σ9 ⟨xt9, e2, rfl, hb2⟩
  have h2 : e2 = true := hb2.2 ⟨rfl, rfl, rfl⟩
  subst h2
  have dcee : (e == e) = true := by simp
  repeat (first | (with_reducible first | refine AW.seq ?_ | refine AW.block ?_ | refine AW.skip ?_ | refine AW.ret ?_ | refine AW.exit ?_ | refine AW.reg hT ?_) | (with_reducible refine AW.drawn (id := 7) hT [0,2,1,3,4,5,6,7,8,9] [[],[0],[],[0,1,2],[0,1,2,3],[0,1,2,3,4],[0,1,2,3,4],[0,1,2,3,4,5,6],[0,1,2,3,4,5,6,7],[0,1,2,3,4,5,6,7,8]] mix (by kernel_rfl) ?_) | ((with_reducible show DLeft _ _ _ _ (_ :: _) _ _ _ _); (with_reducible apply DLeft.step hT); (case hoi => ((simp only [List.getElem?_toArray,List.getElem?_cons_zero,List.getElem?_cons_succ]); with_reducible rfl)); (case hg => rfl); (case hk => rfl); (case hr => ((try simp (maxSteps := 3000000) (maxDischargeDepth := 12) only [seval,push_cast,appendX,Try.results3,dc1,gtb8,Heap.lt gtb8,xt9.2,xt9.ltT,xt9.leT,dcee]); with_reducible rfl))) | ((with_reducible refine AW.cond_true ?_ ?_); · rfl) | ((with_reducible refine AW.cond_false ?_ ?_); · rfl) | simp (maxSteps := 3000000) (maxDischargeDepth := 12) only [seval,push_cast,appendX,Try.results3,dc1,gtb8,Heap.lt gtb8,xt9.2,xt9.ltT,xt9.leT,dcee])
end Go.Proofs.Ytdibcgcildcjnaa.Cm
