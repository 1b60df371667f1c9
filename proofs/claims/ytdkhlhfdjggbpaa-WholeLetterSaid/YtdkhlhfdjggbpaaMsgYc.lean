/- Package message: laid. Messages that are alike: the program's and the document's tests. -/
import Derived.Test.YtdkhlhfdjggbpaaMsgYp
namespace Go.Proofs.Ytdkhlhfdjggbpaa.Cm
open Go.RowKit
set_option linter.unusedVariables false
set_option linter.unusedSimpArgs false
set_option maxRecDepth 20000
set_option maxHeartbeats 8000000
abbrev nilS : DV := .sc (.slice none 0 0)
def mayAll (z : Me) : Prop := ∀ c ∈ fieldsI z.m.ty, mayI (mlay c z).1 (mlay c z).2
def agn (z : Me) (cs : List Int) : Me := cs.foldl (fun a c => mtake c a (mlay c z).1 (mlay c z).2) (mz z.m.ty z.m.ttl)
def ldI (z : Me) (df : DV) (els : List (List DV)) (n0 N pm p3 pa : Nat) (σ0 : Heap) (m : Nat) (ts : List DV) (σ : Heap) : Prop := ∃ i d, m = els.length + 1 - i ∧ i ≤ els.length ∧ (∀ c ∈ (fieldsI z.m.ty).take i, mayI (mlay c z).1 (mlay c z).2) ∧ σ.get pm = some (MeO z) ∧ σ.get p3 = some (MgO (mz 0 0).m nilS nilS) ∧ σ.get pa = some (MeO (agn z ((fieldsI z.m.ty).take i))) ∧ Hold σ df 75 els ∧ FdsAt n0 N (fieldsI z.m.ty) els σ ∧ Hold σ d 81 (((fieldsI z.m.ty).take i).map (fun c => eO (objM z c))) ∧ (∀ q ∈ tOf d, N ≤ q) ∧ Ext [] σ0 σ ∧ N ≤ σ.n ∧ TellsL ts (.any :: .ptr pm 0 0 1 :: .any :: .ptr p3 0 0 1 :: .sc (.bool false) :: .ptr pa 0 0 1 :: d :: df :: .any :: .any :: .any :: .any :: .any :: .any :: .any :: .any :: .any :: .any :: .any :: .any :: .any :: df :: .sc (.int .i64 els.length) :: .sc (.int .i64 i) :: .any :: .any :: .any :: .any :: .any :: .any :: .any :: .any :: .any :: .any :: .any :: .any :: .any :: .any :: .any :: .any :: .any :: .any :: .any :: .any :: .any :: .any :: .any :: .any :: .any :: .any :: .any :: .any :: .any :: .any :: .any :: [])
theorem Hold.app1y {σ : Heap} {d : DV} {e ty : TypeId} {els : List (List DV)} {x : List DV} {a b : Nat} {z : List Value} {ei : TI} (h : Hold σ d e els) (h1 : T ty = some ⟨.slice e, a, b, z⟩) (h2 : T e = some ei) (hp : 0 < ei.size)
    (hx : x.length = ei.size) (hb : (els.length + 1) * (ei.bytes + 1) ≤ 140737488355328) :
    ∃ d' σ', appendX T (σ.push ⟨[x], e, true⟩) ty d (.sl σ.n 0 1 1) = some (d', σ') ∧ Hold σ' d' e (els ++ [x]) ∧ (∀ q ∈ tOf d', q ∈ tOf d ∨ σ.n ≤ q) ∧ Ext (tOf d) (σ.push ⟨[x], e, true⟩) σ' := by
  obtain ⟨d', σ', happ, hh, hext, hfp⟩ := Hold.append (T := T) (ty := ty) (x := .sl σ.n 0 1 1) (xs := [x]) (h.frame (X := []) (σ' := σ.push ⟨[x], e, true⟩) ((Ext.refl _ _).push _) (by simp)) h1 h2 hp (by simp [sliceD, getO]) (by simp) (by simp [hx]) (by simpa using hb)
  refine ⟨d', σ', happ, hh, fun q hq => ?_, hext⟩
  rcases Nat.lt_or_ge q (σ.push ⟨[x], e, true⟩).n with h | h
  · exact .inl (hfp q h hq)
  · rw [Heap.n_push] at h; exact .inr (by omega)
theorem laid_raw (σ : Heap) {z : Me} (hw : z.Wf) (hpe : perOk z.m.per) (hse : perOk z.m.ser) : ACalls Try.prog 20 [.agg (meC z)] σ (fun y σ' => Ext [] σ σ' ∧ ((mayAll z ∧ ∃ d, y = .tup [d, .agg (meC (againI z)), .sc (.bool (decide (fieldsI z.m.ty ≠ [])))] ∧ Hold σ' d 81 ((objsM z).map eO) ∧ (∀ q ∈ tOf d, σ.n ≤ q)) ∨ (¬ mayAll z ∧ y = .tup [nilS, .agg (mgC (mz 0 0).m nilS nilS), .sc (.bool false)]))) := by
  simp only [meC, mgC]
  refine ACalls.code hT Try.func20 rfl ?_
  simp only [Try.ntmps20, List.length_cons, List.length_nil, Nat.reduceSub, Nat.reduceAdd, List.replicate, List.cons_append, List.nil_append]
  repeat ((fail_if_success (with_reducible refine AW.at1 (id := 3) ?_)); (fail_if_success (with_reducible refine AW.at2 (id := 3) ?_)); first | (with_reducible first | refine AW.seq ?_ | refine AW.block ?_ | refine AW.skip ?_ | refine AW.ret ?_ | refine AW.exit ?_ | refine AW.reg hT ?_) | ((with_reducible refine AW.cond_true ?_ ?_); · rfl) | ((with_reducible refine AW.cond_false ?_ ?_); · rfl) | simp (maxSteps := 3000000) (maxDischargeDepth := 12) only [seval,push_cast,appendX,Try.results20])
  refine AW.name (fun σ1 hσ1 => ?_)
  have x01 : Ext [] σ σ1 := by subst hσ1; repeat (first | exact Ext.refl _ _ | assumption | refine Ext.push ?_ _ | ((refine Ext.set ?_ ?_ _); rotate_left; · (simp (maxSteps := 3000000) (maxDischargeDepth := 12) only [push_cast, appendX, Nat.reduceAdd, Nat.reduceEqDiff, Nat.reduceLT, Nat.reduceLeDiff, reduceIte, reduceCtorEq])) | ((refine Ext.then1 (by assumption) ?_ ?_); rotate_left; · (intro p hp _; first | assumption | exact List.mem_cons_of_mem _ hp | (cases hp; done) | (simp at hp; subst hp; simp))))
  have gm1 : σ1.get σ.n = some (MeO z) := by subst hσ1; simp (maxSteps := 3000000) (maxDischargeDepth := 12) only [push_cast, appendX, Nat.reduceAdd, Nat.reduceEqDiff, Nat.reduceLT, Nat.reduceLeDiff, reduceIte, reduceCtorEq, MeO, MgO, mgC]
  have g31 : σ1.get (σ.n + 1) = some (MgO (mz 0 0).m nilS nilS) := by subst hσ1; simp (maxSteps := 3000000) (maxDischargeDepth := 12) only [push_cast, appendX, Nat.reduceAdd, Nat.reduceEqDiff, Nat.reduceLT, Nat.reduceLeDiff, reduceIte, reduceCtorEq, mz, nilS, MgO, mgC]
  have ga1' : σ1.get (σ.n + 2) = some (MgO (mz z.m.ty z.m.ttl).m nilS nilS) := by subst hσ1; simp (maxSteps := 3000000) (maxDischargeDepth := 12) only [push_cast, appendX, Nat.reduceAdd, Nat.reduceEqDiff, Nat.reduceLT, Nat.reduceLeDiff, reduceIte, reduceCtorEq, mz, nilS, MgO, mgC]
  have hn1 : σ.n + 3 = σ1.n := by subst hσ1; simp
  clear hσ1
  obtain ⟨pm, hpm⟩ : ∃ p, p = σ.n := ⟨_, rfl⟩
  obtain ⟨p3, hp3⟩ : ∃ p, p = σ.n + 1 := ⟨_, rfl⟩
  obtain ⟨pa, hpa⟩ : ∃ p, p = σ.n + 2 := ⟨_, rfl⟩
  rw [← hpm] at gm1; rw [← hp3] at g31; rw [← hpa] at ga1'
  rw [← hp3, ← hpa, ← hpm]
  refine AW.retell (el' := meC (agn z [])) ga1' ⟨Tells.refl _, Tells.refl _, Tells.refl _, Tells.refl _, Tells.refl _, Tells.refl _, Tells.refl _, Tells.refl _, Tells.refl _, Tells.refl _, Tells.refl _, Tells.refl _, Tells.refl _, Tells.refl _, Tells.refl _, Tells.nil, Tells.nil, Tells.refl _, Tells.refl _, Tells.refl _, trivial⟩ ?_
  refine AW.name (fun σ2 hσ2 => ?_)
  have x12 : Ext [pa] σ1 σ2 := by subst hσ2; exact (Ext.refl _ _).set (.inr (by simp)) _
  have gtm : σ2.get pm = some (MeO z) := x12.get gm1 (by simp; omega)
  have gt3 : σ2.get p3 = some (MgO (mz 0 0).m nilS nilS) := x12.get g31 (by simp; omega)
  have gta : σ2.get pa = some (MeO (agn z [])) := by subst hσ2; exact Heap.get_set (by omega)
  have x02 : Ext [] σ σ2 := x01.then x12 (fun q hq hl => by simp at hq; omega)
  have hn2 : σ.n + 3 = σ2.n := by subst hσ2; simp; omega
  clear hσ2 ga1' g31 gm1 x12 x01
  simp only [MeO, MgO, mgC] at gtm
  repeat ((fail_if_success (with_reducible refine AW.at1 (id := 4) ?_)); (fail_if_success (with_reducible refine AW.at2 (id := 4) ?_)); first | (with_reducible first | refine AW.seq ?_ | refine AW.block ?_ | refine AW.skip ?_ | refine AW.ret ?_ | refine AW.exit ?_ | refine AW.reg hT ?_) | ((with_reducible refine AW.cond_true ?_ ?_); · rfl) | ((with_reducible refine AW.cond_false ?_ ?_); · rfl) | simp (maxSteps := 3000000) (maxDischargeDepth := 12) only [seval,push_cast,appendX,Try.results20,gtm,Heap.lt gtm,gt3,Heap.lt gt3,gta,Heap.lt gta])
  refine AOpsL.call (first := []) (cap := []) hT rfl rfl rfl fn26 rfl (ACalls.mono (fields_ok _ z.m.ty) ?_)
  rintro df σ3 ⟨xt3, els, hh3, hnew3, hfd3⟩
  have hlen := hfd3.len
  have hcl := fields_len z.m.ty
  have hlf : lenD T 70 df = some (els.length : Int) := hh3.len rfl
  have dnlf := hlf
  have dncl := hh3.cells
  have dnle := hh3.leaf
  repeat (first | (with_reducible first | refine AW.seq ?_ | refine AW.block ?_ | refine AW.skip ?_ | refine AW.ret ?_ | refine AW.exit ?_ | refine AW.reg hT ?_) | ((with_reducible refine AW.cond_true ?_ ?_); · rfl) | ((with_reducible refine AW.cond_false ?_ ?_); · rfl) | simp (maxSteps := 3000000) (maxDischargeDepth := 12) only [seval,push_cast,appendX,Try.results20,gtm,Heap.lt gtm,gt3,Heap.lt gt3,gta,Heap.lt gta,xt3.2,xt3.ltT,xt3.leT,↓dnlf,↓dncl,↓dnle])
  refine AW.loop (ldI z df els σ2.n σ3.n pm p3 pa σ) (m := els.length + 1) ⟨0, nilS, rfl, Nat.zero_le _, by simp, xt3.get gtm (by simp), xt3.get gt3 (by simp), xt3.get gta (by simp), hh3, hfd3, Hold.nil _ _, by simp [tOf], x02.trans xt3, Nat.le_refl _, by (simp only [push_cast, TellsL, tells_any, tells_refl])⟩ ?_
  have hn02 : σ.n + 3 ≤ σ2.n := by omega
  have hnN : σ2.n ≤ σ3.n := xt3.1
  have hdN := hh3.lt
  generalize σ2.n = n0 at hnew3 hn02 hnN hfd3 ⊢
  generalize σ3.n = N at hnN hfd3 hdN ⊢
  clear hh3 hfd3 dnlf hlf gtm gt3 gta x02 xt3 hn1
  rintro m ts σ4 ⟨i, d, rfl, hil, hmay, gtm, gt3, gta, hh, hfd, hho, hnew, xt0, hn0, hts⟩
  refine AW.told hts ?_
  clear hts
  by_cases hi : i < els.length
  · have hic : i < (fieldsI z.m.ty).length := by omega
    obtain ⟨c, hc⟩ : ∃ c, (fieldsI z.m.ty)[i]? = some c := ⟨_, List.getElem?_eq_getElem hic⟩
    have hcc : classM c := fields_class (List.mem_of_getElem? hc)
    obtain ⟨el, hel, hfa⟩ := hfd.at_ hc
    obtain ⟨f1, f2, cap1, cap2, rfl, hf1, hf2, hcl2⟩ := hfa
    obtain ⟨t, full, rfl, gtt, hfi⟩ := hh.at_ hi
    have dcfi : full[i]? = some [.sc (.int .i64 c), .fn (.func f1) [] cap1, .fn (.func f2) [] cap2] := by
      rw [hfi]; rw [List.getElem?_eq_getElem hi] at hel; exact hel
    have dci : decide ((i : Int) < (els.length : Int)) = true := by simp; omega
    have dci2 : ((i : Int) < (els.length : Int)) = True := by simp; omega
    have dci0 : ((0 : Int) ≤ (i : Int)) = True := by simp
    have dcw : IntKind.i64.wrap ((i : Int) + 1) = (i : Int) + 1 := wrap_i64 (by omega) (by omega)
    have htk : (fieldsI z.m.ty).take (i + 1) = (fieldsI z.m.ty).take i ++ [c] := by
      rw [List.take_add_one, hc]; rfl
    have htn : n0 ≤ t := hnew3 t (by simp [tOf])
    repeat ((fail_if_success (with_reducible refine AW.at1 (id := 8) ?_)); (fail_if_success (with_reducible refine AW.at2 (id := 8) ?_)); first | (with_reducible first | refine AW.seq ?_ | refine AW.block ?_ | refine AW.skip ?_ | refine AW.ret ?_ | refine AW.exit ?_ | refine AW.reg hT ?_) | ((with_reducible refine AW.cond_true ?_ ?_); · rfl) | ((with_reducible refine AW.cond_false ?_ ?_); · rfl) | simp (maxSteps := 3000000) (maxDischargeDepth := 12) only [seval,push_cast,appendX,Try.results20,↓dncl,↓dnle,gtm,Heap.lt gtm,gt3,Heap.lt gt3,gta,Heap.lt gta,xt0.2,xt0.ltT,xt0.leT,gtt,Heap.lt gtt,dcfi,dci,dci2,dci0,dcw])
    refine AW.name (fun σ5 hσ5 => ?_)
    have g95 : σ5.get σ4.n = some ⟨[[.sc (.int .i64 c), .fn (.func f1) [] cap1, .fn (.func f2) [] cap2]], 75, true⟩ := by subst hσ5; simp (maxSteps := 3000000) (maxDischargeDepth := 12) only [push_cast, appendX, Nat.reduceAdd, Nat.reduceEqDiff, Nat.reduceLT, Nat.reduceLeDiff, reduceIte, reduceCtorEq, ↓dncl, ↓dnle, gtm, Heap.lt gtm, gt3, Heap.lt gt3, gta, Heap.lt gta, xt0.2, xt0.ltT, xt0.leT, gtt, Heap.lt gtt, dcfi, dci, dci2, dci0, dcw]
    have gx5 : σ5.get (σ4.n + 1) = some (ItO (zF c) nilS) := by subst hσ5; simp (maxSteps := 3000000) (maxDischargeDepth := 12) only [push_cast, appendX, Nat.reduceAdd, Nat.reduceEqDiff, Nat.reduceLT, Nat.reduceLeDiff, reduceIte, reduceCtorEq, ItO, itC, zF, nilS, ↓dncl, ↓dnle, gtm, Heap.lt gtm, gt3, Heap.lt gt3, gta, Heap.lt gta, xt0.2, xt0.ltT, xt0.leT, gtt, Heap.lt gtt, dcfi, dci, dci2, dci0, dcw]
    have x45 : Ext [] σ4 σ5 := by subst hσ5; repeat (first | exact Ext.refl _ _ | assumption | refine Ext.push ?_ _ | ((refine Ext.set ?_ ?_ _); rotate_left; · (simp (maxSteps := 3000000) (maxDischargeDepth := 12) only [push_cast, appendX, Nat.reduceAdd, Nat.reduceEqDiff, Nat.reduceLT, Nat.reduceLeDiff, reduceIte, reduceCtorEq, ↓dncl, ↓dnle, gtm, Heap.lt gtm, gt3, Heap.lt gt3, gta, Heap.lt gta, xt0.2, xt0.ltT, xt0.leT, gtt, Heap.lt gtt, dcfi, dci, dci2, dci0, dcw])) | ((refine Ext.then1 (by assumption) ?_ ?_); rotate_left; · (intro p hp _; first | assumption | exact List.mem_cons_of_mem _ hp | (cases hp; done) | (simp at hp; subst hp; simp))))
    clear hσ5
    obtain ⟨p9, hp9⟩ : ∃ p, p = σ4.n := ⟨_, rfl⟩
    obtain ⟨px, hpx⟩ : ∃ p, p = σ4.n + 1 := ⟨_, rfl⟩
    rw [← hp9] at g95; rw [← hpx] at gx5
    rw [← hpx, ← hp9]
    refine AW.retell (el' := itC (zF c) (.imm [])) gx5 ⟨Tells.refl _, Tells.refl _, Tells.refl _, Tells.refl _, Tells.refl _, Tells.nil, Tells.refl _, Tells.refl _, Tells.refl _, Tells.refl _, Tells.refl _, Tells.refl _, trivial⟩ ?_
    refine AW.name (fun σ6 hσ6 => ?_)
    have hpl := Heap.lt gx5
    have x46 : Ext [] σ4 σ6 := by subst hσ6; exact x45.set (.inl (by omega)) _
    have gx6 : σ6.get px = some (ItO (zF c) (.imm [])) := by subst hσ6; exact Heap.get_set hpl
    have gt96 : σ6.get p9 = some ⟨[[.sc (.int .i64 c), .fn (.func f1) [] cap1, .fn (.func f2) [] cap2]], 75, true⟩ := by
      subst hσ6; rw [Heap.get_set_ne (by omega)]; exact g95
    clear hσ6 gx5 g95 x45
    have gm6 := x46.get gtm (by simp)
    have gt36 := x46.get gt3 (by simp)
    have gta6 := x46.get gta (by simp)
    obtain ⟨hlay, _⟩ := hcl2 [] σ6 (by simp) x46
    have hlay6 := hlay pm px z gm6 gx6 hpe hse
    have hwf := mlay_wf hcc hpe.1 hse.1 hw
    have hcls := mlay_cls hcc z
    have hmem : c ∈ fieldsI z.m.ty := List.mem_of_getElem? hc
    have hu : c = 5 ∨ c = 23 → perOk (mlay c z).1.u := by
      rintro (rfl | rfl)
      · exact hpe
      · exact hse
    have hstep : agn z ((fieldsI z.m.ty).take i ++ [c]) = mtake c (agn z ((fieldsI z.m.ty).take i)) (mlay c z).1 (mlay c z).2 := by simp [agn]
    have hobj : objM z c = ⟨c, kindI c, bodyI (mlay c z).1 (mlay c z).2⟩ := rfl
    have hmayc : (∀ y ∈ (fieldsI z.m.ty).take i ++ [c], mayI (mlay y z).1 (mlay y z).2) ↔ mayI (mlay c z).1 (mlay c z).2 := by
      constructor
      · exact fun h => h c (by simp)
      · intro h y hy
        rcases List.mem_append.1 hy with hy | hy
        · exact hmay y hy
        · rw [List.mem_singleton.1 hy]; exact h
    have hmayA : mayAll z → mayI (mlay c z).1 (mlay c z).2 := fun h => h c hmem
    generalize mlay c z = ml at hlay6 hwf hcls hu hstep hobj hmayc hmayA
    obtain ⟨x, L⟩ := ml
    simp only at hlay6 hwf hcls hu hstep hobj hmayc hmayA
    clear hlay
    repeat (first | (with_reducible first | refine AW.seq ?_ | refine AW.block ?_ | refine AW.skip ?_ | refine AW.ret ?_ | refine AW.exit ?_ | refine AW.reg hT ?_) | ((with_reducible refine AW.cond_true ?_ ?_); · rfl) | ((with_reducible refine AW.cond_false ?_ ?_); · rfl) | simp (maxSteps := 3000000) (maxDischargeDepth := 12) only [seval,push_cast,appendX,Try.results20,↓dncl,↓dnle,gtm,Heap.lt gtm,gt3,Heap.lt gt3,gta,Heap.lt gta,xt0.2,xt0.ltT,xt0.leT,gtt,Heap.lt gtt,dcfi,dci,dci2,dci0,dcw,gt96,Heap.lt gt96,gt36,Heap.lt gt36,gta6,Heap.lt gta6])
    refine AOpsL.call (first := []) (cap := cap1) hT rfl rfl rfl hf1 rfl (ACalls.mono hlay6 ?_)
    rintro y σ7 ⟨rfl, gtx7, xt7⟩
    have gt97 := xt7.get gt96 (by simp; omega)
    have gtm7 := xt7.get gm6 (by simp; have := Heap.lt gtm; omega)
    have gt37 := xt7.get gt36 (by simp; have := Heap.lt gt3; omega)
    have gta7 := xt7.get gta6 (by simp; have := Heap.lt gta; omega)
    have x47 : Ext [] σ4 σ7 := x46.then xt7 (fun q hq hl => by simp at hq; omega)
    obtain ⟨pc, pk, pb, pe, hpk, hob, hbl, hcase⟩ := pack_cases x L
    have hP := packI_ok σ7 hwf.1 hwf.2
    rw [hpk] at hP
    simp only at hP
    clear gx6 gt96 gm6 gt36 gta6 xt7 hlay6
    repeat (first | (with_reducible first | refine AW.seq ?_ | refine AW.block ?_ | refine AW.skip ?_ | refine AW.ret ?_ | refine AW.exit ?_ | refine AW.reg hT ?_) | ((with_reducible refine AW.cond_true ?_ ?_); · rfl) | ((with_reducible refine AW.cond_false ?_ ?_); · rfl) | simp (maxSteps := 3000000) (maxDischargeDepth := 12) only [seval,push_cast,appendX,Try.results20,ItO,itC,↓dncl,↓dnle,gtm,Heap.lt gtm,gt3,Heap.lt gt3,gta,Heap.lt gta,xt0.2,xt0.ltT,xt0.leT,gtt,Heap.lt gtt,dcfi,dci,dci2,dci0,dcw,gtx7,Heap.lt gtx7,gt97,Heap.lt gt97,gtm7,Heap.lt gtm7,gt37,Heap.lt gt37,gta7,Heap.lt gta7])
    refine AOpsL.call (first := []) (cap := []) hT rfl rfl rfl fn32 rfl (ACalls.mono (hP) ?_)
    rintro y σ8 ⟨rfl, xt8⟩
    clear hP
    have gt98 := xt8.get gt97 (by simp)
    have gtx8 := xt8.get gtx7 (by simp)
    have gtm8 := xt8.get gtm7 (by simp)
    have gt38 := xt8.get gt37 (by simp)
    have gta8 := xt8.get gta7 (by simp)
    have x48 := x47.trans xt8
    have xt08 := xt0.trans x48
    have dcp3 : (σ.n ≤ p3) = True := by simp; omega
    rcases hcase.symm with ⟨rfl, hmc, rfl, rfl, rfl⟩ | ⟨rfl, hmc, rfl, rfl, rfl⟩
    · repeat (first | (with_reducible first | refine AW.seq ?_ | refine AW.block ?_ | refine AW.skip ?_ | refine AW.ret ?_ | refine AW.exit ?_ | refine AW.reg hT ?_) | ((with_reducible refine AW.cond_true ?_ ?_); · rfl) | ((with_reducible refine AW.cond_false ?_ ?_); · rfl) | simp (maxSteps := 3000000) (maxDischargeDepth := 12) only [seval,push_cast,appendX,Try.results20,MgO,mgC,↓dncl,↓dnle,gtm,Heap.lt gtm,gt3,Heap.lt gt3,gta,Heap.lt gta,xt0.2,xt0.ltT,xt0.leT,gtt,Heap.lt gtt,dcfi,dci,dci2,dci0,dcw,gtx7,Heap.lt gtx7,gt97,Heap.lt gt97,gtm7,Heap.lt gtm7,gt37,Heap.lt gt37,gta7,Heap.lt gta7,xt8.2,xt8.ltT,xt8.leT,gt98,Heap.lt gt98,gtx8,Heap.lt gtx8,gtm8,Heap.lt gtm8,gt38,Heap.lt gt38,gta8,Heap.lt gta8,xt08.2,xt08.ltT,xt08.leT,dcp3])
      exact ⟨by repeat (first | exact Ext.refl _ _ | assumption | refine Ext.push ?_ _ | ((refine Ext.set ?_ ?_ _); rotate_left; · (simp (maxSteps := 3000000) (maxDischargeDepth := 12) only [push_cast, appendX, Nat.reduceAdd, Nat.reduceEqDiff, Nat.reduceLT, Nat.reduceLeDiff, reduceIte, reduceCtorEq, ↓dncl, ↓dnle, gtm, Heap.lt gtm, gt3, Heap.lt gt3, gta, Heap.lt gta, xt0.2, xt0.ltT, xt0.leT, gtt, Heap.lt gtt, dcfi, dci, dci2, dci0, dcw, gtx7, Heap.lt gtx7, gt97, Heap.lt gt97, gtm7, Heap.lt gtm7, gt37, Heap.lt gt37, gta7, Heap.lt gta7, xt8.2, xt8.ltT, xt8.leT, gt98, Heap.lt gt98, gtx8, Heap.lt gtx8, gtm8, Heap.lt gtm8, gt38, Heap.lt gt38, gta8, Heap.lt gta8, xt08.2, xt08.ltT, xt08.leT, dcp3])) | ((refine Ext.then1 (by assumption) ?_ ?_); rotate_left; · (intro p hp _; first | assumption | exact List.mem_cons_of_mem _ hp | (cases hp; done) | (simp at hp; subst hp; simp)))), .inr ⟨fun hA => hmc (hmayA hA), rfl⟩⟩
    · repeat ((fail_if_success (with_reducible refine AW.at1 (id := 12) ?_)); (fail_if_success (with_reducible refine AW.at2 (id := 12) ?_)); first | (with_reducible first | refine AW.seq ?_ | refine AW.block ?_ | refine AW.skip ?_ | refine AW.ret ?_ | refine AW.exit ?_ | refine AW.reg hT ?_) | ((with_reducible refine AW.cond_true ?_ ?_); · rfl) | ((with_reducible refine AW.cond_false ?_ ?_); · rfl) | simp (maxSteps := 3000000) (maxDischargeDepth := 12) only [seval,push_cast,appendX,Try.results20,↓dncl,↓dnle,gtm,Heap.lt gtm,gt3,Heap.lt gt3,gta,Heap.lt gta,xt0.2,xt0.ltT,xt0.leT,gtt,Heap.lt gtt,dcfi,dci,dci2,dci0,dcw,gtx7,Heap.lt gtx7,gt97,Heap.lt gt97,gtm7,Heap.lt gtm7,gt37,Heap.lt gt37,gta7,Heap.lt gta7,xt8.2,xt8.ltT,xt8.leT,gt98,Heap.lt gt98,gtx8,Heap.lt gtx8,gtm8,Heap.lt gtm8,gt38,Heap.lt gt38,gta8,Heap.lt gta8,xt08.2,xt08.ltT,xt08.leT,dcp3])
      refine AW.name (fun σ9 hσ9 => ?_)
      have xt89 : Ext [] σ8 σ9 := by subst hσ9; repeat (first | exact Ext.refl _ _ | assumption | refine Ext.push ?_ _ | ((refine Ext.set ?_ ?_ _); rotate_left; · (simp (maxSteps := 3000000) (maxDischargeDepth := 12) only [push_cast, appendX, Nat.reduceAdd, Nat.reduceEqDiff, Nat.reduceLT, Nat.reduceLeDiff, reduceIte, reduceCtorEq, ↓dncl, ↓dnle, gtm, Heap.lt gtm, gt3, Heap.lt gt3, gta, Heap.lt gta, xt0.2, xt0.ltT, xt0.leT, gtt, Heap.lt gtt, dcfi, dci, dci2, dci0, dcw, gtx7, Heap.lt gtx7, gt97, Heap.lt gt97, gtm7, Heap.lt gtm7, gt37, Heap.lt gt37, gta7, Heap.lt gta7, xt8.2, xt8.ltT, xt8.leT, gt98, Heap.lt gt98, gtx8, Heap.lt gtx8, gtm8, Heap.lt gtm8, gt38, Heap.lt gt38, gta8, Heap.lt gta8, xt08.2, xt08.ltT, xt08.leT, dcp3])) | ((refine Ext.then1 (by assumption) ?_ ?_); rotate_left; · (intro p hp _; first | assumption | exact List.mem_cons_of_mem _ hp | (cases hp; done) | (simp at hp; subst hp; simp))))
      have gtb9 : σ9.get σ8.n = some ⟨[[.sc (.int .i64 x.cls), .sc (.int .i64 (kindI x.cls)), .imm (bytesD (bodyI x L))]], 81, true⟩ := by subst hσ9; simp (maxSteps := 3000000) (maxDischargeDepth := 12) only [push_cast, appendX, Nat.reduceAdd, Nat.reduceEqDiff, Nat.reduceLT, Nat.reduceLeDiff, reduceIte, reduceCtorEq, ↓dncl, ↓dnle, gtm, Heap.lt gtm, gt3, Heap.lt gt3, gta, Heap.lt gta, xt0.2, xt0.ltT, xt0.leT, gtt, Heap.lt gtt, dcfi, dci, dci2, dci0, dcw, gtx7, Heap.lt gtx7, gt97, Heap.lt gt97, gtm7, Heap.lt gtm7, gt37, Heap.lt gt37, gta7, Heap.lt gta7, xt8.2, xt8.ltT, xt8.leT, gt98, Heap.lt gt98, gtx8, Heap.lt gtx8, gtm8, Heap.lt gtm8, gt38, Heap.lt gt38, gta8, Heap.lt gta8, xt08.2, xt08.ltT, xt08.leT, dcp3, xt89.2, xt89.ltT, xt89.leT]
      clear hσ9
      have gt99 := xt89.get gt98 (by simp)
      have gtx9 := xt89.get gtx8 (by simp)
      have gtm9 := xt89.get gtm8 (by simp)
      have gt39 := xt89.get gt38 (by simp)
      have gta9 := xt89.get gta8 (by simp)
      have x49 := x48.trans xt89
      have x09 := xt0.trans x49
      clear gt97 gtx7 gtm7 gt37 gta7 gt98 gtx8 gtm8 gt38 gta8 xt8 xt89
      have hho9 := hho.frame x49 (by simp)
      obtain ⟨dA, σA, dnapp, hhA, hnewA, heA⟩ := hho9.app1y (ty := 60) (x := eO (objM z c)) rfl rfl (by decide) rfl (by simp; omega)
      have hxcc : eO (objM z c) = [.sc (.int .i64 x.cls), .sc (.int .i64 (kindI x.cls)), .imm (bytesD (bodyI x L))] := by rw [hobj, eO_eq, hcls]
      rw [hxcc] at dnapp
      have hp9d : p9 ∉ tOf d := hho9.ne gt99 (by simp)
      have hpxd : px ∉ tOf d := hho9.ne gtx9 (by simp [ItO])
      have hpmd : pm ∉ tOf d := hho9.ne gtm9 (by simp [MeO, MgO])
      have hp3d : p3 ∉ tOf d := hho9.ne gt39 (by simp [MgO])
      have hpad : pa ∉ tOf d := hho9.ne gta9 (by simp [MeO, MgO])
      have htd : t ∉ tOf d := hho.ne gtt (by simp)
      have hnA := heA.1
      rw [Heap.n_push] at hnA
      have gt9A := heA.get (p := p9) ((Heap.get_push_lt (Heap.lt gt99)).trans gt99) hp9d
      have gtxA := heA.get (p := px) ((Heap.get_push_lt (Heap.lt gtx9)).trans gtx9) hpxd
      have gtmA := heA.get (p := pm) ((Heap.get_push_lt (Heap.lt gtm9)).trans gtm9) hpmd
      have gt3A := heA.get (p := p3) ((Heap.get_push_lt (Heap.lt gt39)).trans gt39) hp3d
      have gtaA := heA.get (p := pa) ((Heap.get_push_lt (Heap.lt gta9)).trans gta9) hpad
      have x4A : Ext (tOf d) σ4 σA := ((x49.mono (Y := tOf d) (by simp)).push _).trans heA
      have hdn : ∀ q ∈ tOf d, q < n0 ∨ N ≤ q := fun q hq => .inr (hnew q hq)
      have hn49 := x49.1
      have hnewB : ∀ q ∈ tOf dA, N ≤ q := fun q hq => by
        rcases hnewA q hq with h | h
        · exact hnew q h
        · omega
      have xt0A : Ext [] σ σA := (x09.push _).then heA (fun q hq hl => by have := hnew q hq; omega)
      obtain ⟨_, htak⟩ := hcl2 (tOf d) σA hdn x4A
      have htake := htak pa _ x L gtaA hu
      clear htak gt99 gtx9 gtm9 gt39 gta9 x49 x09 x48 x47 x46 hho9
      repeat (first | (with_reducible first | refine AW.seq ?_ | refine AW.block ?_ | refine AW.skip ?_ | refine AW.ret ?_ | refine AW.exit ?_ | refine AW.reg hT ?_) | ((with_reducible refine AW.cond_true ?_ ?_); · rfl) | ((with_reducible refine AW.cond_false ?_ ?_); · rfl) | simp (maxSteps := 3000000) (maxDischargeDepth := 12) only [seval,push_cast,appendX,Try.results20,ItO,itC,↓dncl,↓dnle,gtm,Heap.lt gtm,gt3,Heap.lt gt3,gta,Heap.lt gta,xt0.2,xt0.ltT,xt0.leT,gtt,Heap.lt gtt,dcfi,dci,dci2,dci0,dcw,xt08.2,xt08.ltT,xt08.leT,dcp3,gtb9,Heap.lt gtb9,↓dnapp,gt9A,Heap.lt gt9A,gtxA,Heap.lt gtxA,gtmA,Heap.lt gtmA,gt3A,Heap.lt gt3A,gtaA,Heap.lt gtaA,xt0A.2,xt0A.ltT,xt0A.leT])
      refine AOpsL.call (first := []) (cap := cap2) hT rfl rfl rfl hf2 rfl (ACalls.mono htake ?_)
      rintro y σB ⟨rfl, gtaB, xtB⟩
      repeat (first | (with_reducible first | refine AW.seq ?_ | refine AW.block ?_ | refine AW.skip ?_ | refine AW.ret ?_ | refine AW.exit ?_ | refine AW.reg hT ?_) | ((with_reducible refine AW.cond_true ?_ ?_); · rfl) | ((with_reducible refine AW.cond_false ?_ ?_); · rfl) | simp (maxSteps := 3000000) (maxDischargeDepth := 12) only [seval,push_cast,appendX,Try.results20,↓dncl,↓dnle,gtm,Heap.lt gtm,gt3,Heap.lt gt3,gta,Heap.lt gta,xt0.2,xt0.ltT,xt0.leT,gtt,Heap.lt gtt,dcfi,dci,dci2,dci0,dcw,xt08.2,xt08.ltT,xt08.leT,dcp3,gtb9,Heap.lt gtb9,↓dnapp,gt9A,Heap.lt gt9A,gtxA,Heap.lt gtxA,gtmA,Heap.lt gtmA,gt3A,Heap.lt gt3A,gtaA,Heap.lt gtaA,xt0A.2,xt0A.ltT,xt0A.leT,gtaB,Heap.lt gtaB,xtB.2,xtB.ltT,xtB.leT])
      have hicc : (((i + 1 : Nat)) : Int) = (i : Int) + 1 := by omega
      have x4B : Ext (tOf d ++ [pa]) σ4 σB := (x4A.mono (fun q hq => List.mem_append_left _ hq)).trans (xtB.mono (fun q hq => List.mem_append_right _ hq))
      refine ⟨els.length + 1 - (i + 1), by omega, i + 1, dA, rfl, hi, by rw [htk]; exact hmayc.2 hmc, xtB.get gtmA (by simp; omega), xtB.get gt3A (by simp; omega), by rw [htk, hstep]; exact gtaB, hh.frame x4B ?_, FdsAt.frame ?_ x4B hfd, ?_, hnewB, xt0A.then xtB ?_, ?_, by (simp only [push_cast, TellsL, tells_any, tells_refl, hicc])⟩
      · intro q hq hm
        simp [tOf] at hq
        subst hq
        rcases List.mem_append.1 hm with h | h
        · exact htd h
        · simp at h; omega
      · intro q hq
        rcases List.mem_append.1 hq with h | h
        · exact hdn q h
        · simp at h; omega
      · rw [htk, List.map_append]
        exact hhA.frame xtB (fun q hq hm => by have := hnewB q hq; simp at hm; omega)
      · intro q hq hl; simp at hq; omega
      · have := x4B.1; omega
  · have dci : decide ((i : Int) < (els.length : Int)) = false := by simp; omega
    have he : i = els.length := by omega
    have hall : (fieldsI z.m.ty).take i = fieldsI z.m.ty := List.take_of_length_le (by omega)
    rw [hall] at hmay gta hho
    have dcl : decide ((0 : Int) < (els.length : Int)) = decide (fieldsI z.m.ty ≠ []) := by
      apply decide_eq_decide.2
      constructor
      · intro h e; rw [e] at hlen; simp at hlen; rw [hlen] at h; simp at h
      · intro h
        have : (fieldsI z.m.ty).length ≠ 0 := fun e => h (List.eq_nil_of_length_eq_zero e)
        omega
    have hlf : lenD T 70 df = some (els.length : Int) := hh.len rfl
    have dnlf := hlf
    have dncd := hho.cells
    have dnld := hho.leaf
    have hho' := hho
    have hag : againI z = agn z (fieldsI z.m.ty) := rfl
    rw [hag]
    generalize agn z (fieldsI z.m.ty) = w at gta ⊢
    repeat (first | (with_reducible first | refine AW.seq ?_ | refine AW.block ?_ | refine AW.skip ?_ | refine AW.ret ?_ | refine AW.exit ?_ | refine AW.reg hT ?_) | ((with_reducible show AW _ (.region 15 _ _) _ _ _); (with_reducible refine AW.drawn (id := 15) hT [0,1,2,3,4,5,6,7] [[],[],[],[2],[2,3],[0],[0,1,5],[0,1,2,3,4,5,6]] mix (by kernel_rfl) ?_)) | ((with_reducible show DLeft _ _ _ _ (_ :: _) _ _ _ _); (with_reducible apply DLeft.step hT); (case hoi => ((simp only [List.getElem?_toArray,List.getElem?_cons_zero,List.getElem?_cons_succ]); with_reducible rfl)); (case hg => rfl); (case hk => rfl); (case hr => ((try simp (maxSteps := 3000000) (maxDischargeDepth := 12) only [seval,push_cast,appendX,Try.results20,MeO,MgO,mgC,meC,↓dncl,↓dnle,gtm,Heap.lt gtm,gt3,Heap.lt gt3,gta,Heap.lt gta,xt0.2,xt0.ltT,xt0.leT,dci,dcl,↓dnlf,↓dncd,↓dnld]); with_reducible rfl))) | ((with_reducible refine AW.cond_true ?_ ?_); · rfl) | ((with_reducible refine AW.cond_false ?_ ?_); · rfl) | simp (maxSteps := 3000000) (maxDischargeDepth := 12) only [seval,push_cast,appendX,Try.results20,MeO,MgO,mgC,meC,↓dncl,↓dnle,gtm,Heap.lt gtm,gt3,Heap.lt gt3,gta,Heap.lt gta,xt0.2,xt0.ltT,xt0.leT,dci,dcl,↓dnlf,↓dncd,↓dnld])
    refine ⟨xt0.set (.inl (by omega)) _, .inl ⟨hmay, d, rfl, ?_, fun q hq => by have := hnew q hq; omega⟩⟩
    have hm : (objsM z).map eO = (fieldsI z.m.ty).map (fun c => eO (objM z c)) := by simp [objsM]
    rw [hm]
    exact hho'.frame (X := [p3]) (Ext.set (Ext.refl _ _) (.inr (by simp)) _) (fun q hq hm => by have := hnew q hq; simp at hm; omega)
theorem laid_yes (σ : Heap) {z : Me} (hw : z.Wf) (hpe : perOk z.m.per) (hse : perOk z.m.ser) (hm : mayAll z) : ACalls Try.prog 20 [.agg (meC z)] σ (fun y σ' => y = .tup [.imm ((objsM z).map eO), .agg (meC (againI z)), .sc (.bool (decide (fieldsI z.m.ty ≠ [])))] ∧ Ext [] σ σ') := by
  refine ACalls.toImmG (e := 81) (els := (objsM z).map eO) (fun d => .tup [d, .agg (meC (againI z)), .sc (.bool (decide (fieldsI z.m.ty ≠ [])))]) ?_ ?_ ?_
  · intro t m es d d' h
    obtain ⟨h1, h2⟩ := FZL.spec (t := t) (m := m) (els := es) (l := [d, .agg (meC (againI z)), .sc (.bool (decide (fieldsI z.m.ty ≠ [])))]) (l' := [d', .agg (meC (againI z)), .sc (.bool (decide (fieldsI z.m.ty ≠ [])))]) ⟨h, .keep _, .keep _, trivial⟩
    exact .tup h1 h2
  · exact Tells.tup ⟨Tells.nil, Tells.refl _, Tells.refl _, trivial⟩
  · refine (laid_raw σ hw hpe hse).mono ?_
    rintro y σ' ⟨hx, h | h⟩
    · obtain ⟨_, d, rfl, h2, h3⟩ := h
      exact ⟨d, rfl, h2, h3, hx⟩
    · exact absurd hm h.1
theorem laid_no (σ : Heap) {z : Me} (hw : z.Wf) (hpe : perOk z.m.per) (hse : perOk z.m.ser) (hm : ¬ mayAll z) : ACalls Try.prog 20 [.agg (meC z)] σ (fun y σ' => y = .tup [.imm [], .agg (meC (mz 0 0)), .sc (.bool false)] ∧ Ext [] σ σ') := by
  refine ACalls.tells ((laid_raw σ hw hpe hse).mono ?_)
  rintro y σ' ⟨hx, h | h⟩
  · exact absurd h.1 hm
  · obtain ⟨_, rfl⟩ := h
    exact ⟨.tup [.imm [], .agg (meC (mz 0 0)), .sc (.bool false)], Tells.tup ⟨Tells.nil, Tells.agg ⟨Tells.refl _, Tells.refl _, Tells.refl _, Tells.refl _, Tells.refl _, Tells.refl _, Tells.refl _, Tells.refl _, Tells.refl _, Tells.refl _, Tells.refl _, Tells.refl _, Tells.refl _, Tells.refl _, Tells.refl _, Tells.nil, Tells.nil, Tells.refl _, Tells.refl _, Tells.refl _, trivial⟩, Tells.refl _, trivial⟩, rfl, hx⟩
def RtO (x : Fs) (d : DV) : AObj := ⟨[itC x d], 118, true⟩
def rsI (L M : List Int) (p q : Nat) (σ0 : Heap) (m : Nat) (ts : List DV) (σ : Heap) : Prop := ∃ i, m = L.length + 1 - i ∧ i ≤ L.length ∧ L.take i = M.take i ∧ σ = σ0 ∧ TellsL ts (.any :: .any :: .ptr p 0 0 1 :: .ptr q 0 0 1 :: .any :: .sc (.int .i64 i) :: .any :: .any :: .any :: .any :: .any :: .any :: .any :: .any :: .any :: .any :: .any :: .any :: .any :: .any :: .any :: .any :: .any :: .any :: .any :: .any :: .any :: .any :: .any :: .any :: .any :: .any :: .any :: .any :: .any :: .any :: .any :: .any :: .any :: .any :: .any :: .any :: .any :: .any :: .any :: .any :: .any :: .any :: .any :: .any :: .any :: .any :: .any :: .any :: .any :: .any :: .any :: .any :: .any :: .any :: .any :: .any :: .any :: .any :: .any :: .any :: .any :: .any :: .any :: .any :: .any :: [])
theorem rsame_ok (σ : Heap) {x y : Fs} {L M : List Int} (hL : L.length ≤ 1000000) : ACalls Try.prog 57 [.agg (itC x (.imm (L.map eI))), .agg (itC y (.imm (M.map eI)))] σ (fun r σ' => Ext [] σ σ' ∧ ∃ b : Bool, r = .sc (.bool b) ∧ (b = true ↔ x = y ∧ L = M)) := by
  refine ACalls.code hT Try.func57 rfl ?_
  simp only [Try.ntmps57, List.length_cons, List.length_nil, Nat.reduceSub, Nat.reduceAdd, List.replicate, List.cons_append, List.nil_append]
  repeat ((fail_if_success (with_reducible refine AW.at1 (id := 1) ?_)); (fail_if_success (with_reducible refine AW.at2 (id := 1) ?_)); first | (with_reducible first | refine AW.seq ?_ | refine AW.block ?_ | refine AW.skip ?_ | refine AW.ret ?_ | refine AW.exit ?_ | refine AW.reg hT ?_) | ((with_reducible refine AW.cond_true ?_ ?_); · rfl) | ((with_reducible refine AW.cond_false ?_ ?_); · rfl) | simp (maxSteps := 3000000) (maxDischargeDepth := 12) only [seval,push_cast,appendX,Try.results57,itC])
  refine AW.name (fun σ2 hσ1 => ?_)
  have gtp2 : σ2.get σ.n = some (RtO x (.imm (L.map eI))) := by subst hσ1; simp (maxSteps := 3000000) (maxDischargeDepth := 12) only [push_cast, appendX, Nat.reduceAdd, Nat.reduceEqDiff, Nat.reduceLT, Nat.reduceLeDiff, reduceIte, reduceCtorEq, RtO, itC]
  have gtq2 : σ2.get (σ.n + 1) = some (RtO y (.imm (M.map eI))) := by subst hσ1; simp (maxSteps := 3000000) (maxDischargeDepth := 12) only [push_cast, appendX, Nat.reduceAdd, Nat.reduceEqDiff, Nat.reduceLT, Nat.reduceLeDiff, reduceIte, reduceCtorEq, RtO, itC, gtp2, Heap.lt gtp2]
  have x02 : Ext [] σ σ2 := by subst hσ1; repeat (first | exact Ext.refl _ _ | assumption | refine Ext.push ?_ _ | ((refine Ext.set ?_ ?_ _); rotate_left; · (simp (maxSteps := 3000000) (maxDischargeDepth := 12) only [push_cast, appendX, Nat.reduceAdd, Nat.reduceEqDiff, Nat.reduceLT, Nat.reduceLeDiff, reduceIte, reduceCtorEq, gtp2, Heap.lt gtp2, gtq2, Heap.lt gtq2])) | ((refine Ext.then1 (by assumption) ?_ ?_); rotate_left; · (intro p hp _; first | assumption | exact List.mem_cons_of_mem _ hp | (cases hp; done) | (simp at hp; subst hp; simp))))
  clear hσ1
  have hne : σ.n ≠ σ.n + 1 := by omega
  generalize σ.n = p at gtp2 gtq2 hne ⊢
  generalize p + 1 = q at gtq2 hne ⊢
  have gtq2 := gtq2
  have del : (L.map eI).length = L.length := List.length_map ..
  have dem : (M.map eI).length = M.length := List.length_map ..
  by_cases hlm : L.length = M.length
  · have dclm : ((L.length : Int) == (M.length : Int)) = true := by simp [hlm]
    repeat (first | (with_reducible first | refine AW.seq ?_ | refine AW.block ?_ | refine AW.skip ?_ | refine AW.ret ?_ | refine AW.exit ?_ | refine AW.reg hT ?_) | ((with_reducible refine AW.cond_true ?_ ?_); · rfl) | ((with_reducible refine AW.cond_false ?_ ?_); · rfl) | simp (maxSteps := 3000000) (maxDischargeDepth := 12) only [seval,push_cast,appendX,Try.results57,RtO,itC,del,dem,gtp2,Heap.lt gtp2,gtq2,Heap.lt gtq2,dclm])
    refine AW.loop (rsI L M p q σ2) (m := L.length + 1) ⟨0, rfl, Nat.zero_le _, rfl, rfl, by (simp only [push_cast, TellsL, tells_any, tells_refl])⟩ ?_
    rintro m ts σ3 ⟨i, rfl, hi, htk, rfl, hts⟩
    refine AW.told hts ?_
    clear hts
    by_cases hlt : i < L.length
    · have dci : decide ((i : Int) < (L.length : Int)) = true := by simp; omega
      have dci2 : ((i : Int) < (L.length : Int)) = True := by simp; omega
      have dci3 : ((i : Int) < (M.length : Int)) = True := by simp; omega
      have dci0 : ((0 : Int) ≤ (i : Int)) = True := by simp
      have dcw : IntKind.i64.wrap ((i : Int) + 1) = (i : Int) + 1 := wrap_i64 (by omega) (by omega)
      have hlm2 : i < M.length := by omega
      have dcel : (L.map eI)[i]? = some [.sc (.int .i64 L[i])] := by rw [List.getElem?_map, List.getElem?_eq_getElem hlt]; rfl
      have dcem : (M.map eI)[i]? = some [.sc (.int .i64 M[i])] := by rw [List.getElem?_map, List.getElem?_eq_getElem hlm2]; rfl
      by_cases he : L[i] = M[i]
      · have dce : (L[i] == M[i]) = true := by simpa using he
        repeat (first | (with_reducible first | refine AW.seq ?_ | refine AW.block ?_ | refine AW.skip ?_ | refine AW.ret ?_ | refine AW.exit ?_ | refine AW.reg hT ?_) | ((with_reducible show AW _ (.region 6 _ _) _ _ _); (with_reducible refine AW.drawn (id := 6) hT [0,1,2,3,4,5,6,7,8,9,10] [[],[0],[],[0,1,2],[0,1,2,3],[],[5],[],[5,6,7],[5,6,7,8],[0,1,2,3,4,5,6,7,8,9]] mix (by kernel_rfl) ?_)) | ((with_reducible show DLeft _ _ _ _ (_ :: _) _ _ _ _); (with_reducible apply DLeft.step hT); (case hoi => ((simp only [List.getElem?_toArray,List.getElem?_cons_zero,List.getElem?_cons_succ]); with_reducible rfl)); (case hg => rfl); (case hk => rfl); (case hr => ((try simp (maxSteps := 3000000) (maxDischargeDepth := 12) only [seval,push_cast,appendX,Try.results57,RtO,itC,del,dem,gtp2,Heap.lt gtp2,gtq2,Heap.lt gtq2,dclm,dci,dci2,dci3,dci0,dcw,dcel,dcem,dce]); with_reducible rfl))) | ((with_reducible refine AW.cond_true ?_ ?_); · rfl) | ((with_reducible refine AW.cond_false ?_ ?_); · rfl) | simp (maxSteps := 3000000) (maxDischargeDepth := 12) only [seval,push_cast,appendX,Try.results57,RtO,itC,del,dem,gtp2,Heap.lt gtp2,gtq2,Heap.lt gtq2,dclm,dci,dci2,dci3,dci0,dcw,dcel,dcem,dce])
        have hic : (((i + 1 : Nat)) : Int) = (i : Int) + 1 := by omega
        exact ⟨L.length + 1 - (i + 1), by omega, i + 1, rfl, hlt, by rw [List.take_succ_eq_append_getElem hlt, List.take_succ_eq_append_getElem hlm2, htk, he], rfl, by (simp only [push_cast, TellsL, tells_any, tells_refl, hic])⟩
      · have dce : (L[i] == M[i]) = false := by simpa using he
        repeat (first | (with_reducible first | refine AW.seq ?_ | refine AW.block ?_ | refine AW.skip ?_ | refine AW.ret ?_ | refine AW.exit ?_ | refine AW.reg hT ?_) | ((with_reducible show AW _ (.region 6 _ _) _ _ _); (with_reducible refine AW.drawn (id := 6) hT [0,1,2,3,4,5,6,7,8,9,10] [[],[0],[],[0,1,2],[0,1,2,3],[],[5],[],[5,6,7],[5,6,7,8],[0,1,2,3,4,5,6,7,8,9]] mix (by kernel_rfl) ?_)) | ((with_reducible show DLeft _ _ _ _ (_ :: _) _ _ _ _); (with_reducible apply DLeft.step hT); (case hoi => ((simp only [List.getElem?_toArray,List.getElem?_cons_zero,List.getElem?_cons_succ]); with_reducible rfl)); (case hg => rfl); (case hk => rfl); (case hr => ((try simp (maxSteps := 3000000) (maxDischargeDepth := 12) only [seval,push_cast,appendX,Try.results57,RtO,itC,del,dem,gtp2,Heap.lt gtp2,gtq2,Heap.lt gtq2,dclm,dci,dci2,dci3,dci0,dcw,dcel,dcem,dce]); with_reducible rfl))) | ((with_reducible refine AW.cond_true ?_ ?_); · rfl) | ((with_reducible refine AW.cond_false ?_ ?_); · rfl) | simp (maxSteps := 3000000) (maxDischargeDepth := 12) only [seval,push_cast,appendX,Try.results57,RtO,itC,del,dem,gtp2,Heap.lt gtp2,gtq2,Heap.lt gtq2,dclm,dci,dci2,dci3,dci0,dcw,dcel,dcem,dce])
        refine ⟨x02, false, rfl, by simp; intro _ h; subst h; exact he rfl⟩
    · have dci : decide ((i : Int) < (L.length : Int)) = false := by simp; omega
      have hLM : L = M := by
        have e1 : L.take i = L := List.take_of_length_le (by omega)
        have e2 : M.take i = M := List.take_of_length_le (by omega)
        rw [e1, e2] at htk; exact htk
      obtain ⟨b, dnq, hbq⟩ := eqW x y
      have hiff := Fs.ext_iff' x y
      by_cases hA0 : x.cls = y.cls
      · have dcA0 : (x.cls == y.cls) = true := by simpa using hA0
        by_cases hA1 : x.a = y.a
        · have dcA1 : (x.a == y.a) = true := by simpa using hA1
          by_cases hA2 : x.b = y.b
          · have dcA2 : (x.b == y.b) = true := by simpa using hA2
            by_cases hA3 : x.c = y.c
            · have dcA3 : (x.c == y.c) = true := by simpa using hA3
              by_cases hA4 : x.u = y.u
              · have dcA4 : (x.u == y.u) = true := by simpa using hA4
                repeat (first | (with_reducible first | refine AW.seq ?_ | refine AW.block ?_ | refine AW.skip ?_ | refine AW.ret ?_ | refine AW.exit ?_ | refine AW.reg hT ?_) | ((with_reducible refine AW.cond_true ?_ ?_); · rfl) | ((with_reducible refine AW.cond_false ?_ ?_); · rfl) | simp (maxSteps := 3000000) (maxDischargeDepth := 12) only [seval,push_cast,appendX,Try.results57,RtO,itC,del,dem,gtp2,Heap.lt gtp2,gtq2,Heap.lt gtq2,dclm,dci,↓dnq,dcA0,dcA1,dcA2,dcA3,dcA4])
                exact ⟨x02, _, rfl, by rw [hiff]; simp [*]⟩
              · have dcA4 : (x.u == y.u) = false := by simpa using hA4
                repeat (first | (with_reducible first | refine AW.seq ?_ | refine AW.block ?_ | refine AW.skip ?_ | refine AW.ret ?_ | refine AW.exit ?_ | refine AW.reg hT ?_) | ((with_reducible refine AW.cond_true ?_ ?_); · rfl) | ((with_reducible refine AW.cond_false ?_ ?_); · rfl) | simp (maxSteps := 3000000) (maxDischargeDepth := 12) only [seval,push_cast,appendX,Try.results57,RtO,itC,del,dem,gtp2,Heap.lt gtp2,gtq2,Heap.lt gtq2,dclm,dci,↓dnq,dcA0,dcA1,dcA2,dcA3,dcA4])
                exact ⟨x02, _, rfl, by rw [hiff]; simp [*]⟩
            · have dcA3 : (x.c == y.c) = false := by simpa using hA3
              repeat (first | (with_reducible first | refine AW.seq ?_ | refine AW.block ?_ | refine AW.skip ?_ | refine AW.ret ?_ | refine AW.exit ?_ | refine AW.reg hT ?_) | ((with_reducible refine AW.cond_true ?_ ?_); · rfl) | ((with_reducible refine AW.cond_false ?_ ?_); · rfl) | simp (maxSteps := 3000000) (maxDischargeDepth := 12) only [seval,push_cast,appendX,Try.results57,RtO,itC,del,dem,gtp2,Heap.lt gtp2,gtq2,Heap.lt gtq2,dclm,dci,↓dnq,dcA0,dcA1,dcA2,dcA3])
              exact ⟨x02, _, rfl, by rw [hiff]; simp [*]⟩
          · have dcA2 : (x.b == y.b) = false := by simpa using hA2
            repeat (first | (with_reducible first | refine AW.seq ?_ | refine AW.block ?_ | refine AW.skip ?_ | refine AW.ret ?_ | refine AW.exit ?_ | refine AW.reg hT ?_) | ((with_reducible refine AW.cond_true ?_ ?_); · rfl) | ((with_reducible refine AW.cond_false ?_ ?_); · rfl) | simp (maxSteps := 3000000) (maxDischargeDepth := 12) only [seval,push_cast,appendX,Try.results57,RtO,itC,del,dem,gtp2,Heap.lt gtp2,gtq2,Heap.lt gtq2,dclm,dci,↓dnq,dcA0,dcA1,dcA2])
            exact ⟨x02, _, rfl, by rw [hiff]; simp [*]⟩
        · have dcA1 : (x.a == y.a) = false := by simpa using hA1
          repeat (first | (with_reducible first | refine AW.seq ?_ | refine AW.block ?_ | refine AW.skip ?_ | refine AW.ret ?_ | refine AW.exit ?_ | refine AW.reg hT ?_) | ((with_reducible refine AW.cond_true ?_ ?_); · rfl) | ((with_reducible refine AW.cond_false ?_ ?_); · rfl) | simp (maxSteps := 3000000) (maxDischargeDepth := 12) only [seval,push_cast,appendX,Try.results57,RtO,itC,del,dem,gtp2,Heap.lt gtp2,gtq2,Heap.lt gtq2,dclm,dci,↓dnq,dcA0,dcA1])
          exact ⟨x02, _, rfl, by rw [hiff]; simp [*]⟩
      · have dcA0 : (x.cls == y.cls) = false := by simpa using hA0
        repeat (first | (with_reducible first | refine AW.seq ?_ | refine AW.block ?_ | refine AW.skip ?_ | refine AW.ret ?_ | refine AW.exit ?_ | refine AW.reg hT ?_) | ((with_reducible refine AW.cond_true ?_ ?_); · rfl) | ((with_reducible refine AW.cond_false ?_ ?_); · rfl) | simp (maxSteps := 3000000) (maxDischargeDepth := 12) only [seval,push_cast,appendX,Try.results57,RtO,itC,del,dem,gtp2,Heap.lt gtp2,gtq2,Heap.lt gtq2,dclm,dci,↓dnq,dcA0])
        exact ⟨x02, _, rfl, by rw [hiff]; simp [*]⟩
  · have dclm : ((L.length : Int) == (M.length : Int)) = false := by simp; omega
    repeat (first | (with_reducible first | refine AW.seq ?_ | refine AW.block ?_ | refine AW.skip ?_ | refine AW.ret ?_ | refine AW.exit ?_ | refine AW.reg hT ?_) | ((with_reducible refine AW.cond_true ?_ ?_); · rfl) | ((with_reducible refine AW.cond_false ?_ ?_); · rfl) | simp (maxSteps := 3000000) (maxDischargeDepth := 12) only [seval,push_cast,appendX,Try.results57,RtO,itC,del,dem,gtp2,Heap.lt gtp2,gtq2,Heap.lt gtq2,dclm])
    exact ⟨x02, false, rfl, by simp; intro _ h; exact hlm (congrArg _ h)⟩
def eqI (L M : List Int) (σ0 : Heap) (m : Nat) (ts : List DV) (σ : Heap) : Prop := ∃ i, m = L.length + 1 - i ∧ i ≤ L.length ∧ L.take i = M.take i ∧ σ = σ0 ∧ TellsL ts (.imm (L.map eI) :: .imm (M.map eI) :: .any :: .any :: .any :: .any :: .any :: .any :: .any :: .any :: .any :: .any :: .sc (.int .i64 L.length) :: .sc (.int .i64 i) :: .any :: .any :: .any :: .any :: .any :: .any :: .any :: .any :: .any :: .any :: .any :: .any :: [])
theorem equal_ok (σ : Heap) {L M : List Int} (hL : L.length ≤ 1000000) : ACalls Try.prog 58 [.imm (L.map eI), .imm (M.map eI)] σ (fun r σ' => σ' = σ ∧ ∃ b : Bool, r = .sc (.bool b) ∧ (b = true ↔ L = M)) := by
  have del : (L.map eI).length = L.length := List.length_map ..
  have dem : (M.map eI).length = M.length := List.length_map ..
  refine ACalls.code hT Try.func58 rfl ?_
  simp only [Try.ntmps58, List.length_cons, List.length_nil, Nat.reduceSub, Nat.reduceAdd, List.replicate, List.cons_append, List.nil_append]
  by_cases hlm : L.length = M.length
  · have dclm : ((L.length : Int) == (M.length : Int)) = true := by simp [hlm]
    repeat (first | (with_reducible first | refine AW.seq ?_ | refine AW.block ?_ | refine AW.skip ?_ | refine AW.ret ?_ | refine AW.exit ?_ | refine AW.reg hT ?_) | ((with_reducible refine AW.cond_true ?_ ?_); · rfl) | ((with_reducible refine AW.cond_false ?_ ?_); · rfl) | simp (maxSteps := 3000000) (maxDischargeDepth := 12) only [seval,push_cast,appendX,Try.results58,del,dem,dclm])
    refine AW.loop (eqI L M σ) (m := L.length + 1) ⟨0, rfl, Nat.zero_le _, rfl, rfl, by (simp only [push_cast, TellsL, tells_any, tells_refl])⟩ ?_
    rintro m ts σ3 ⟨i, rfl, hi, htk, rfl, hts⟩
    refine AW.told hts ?_
    clear hts
    by_cases hlt : i < L.length
    · have dci : decide ((i : Int) < (L.length : Int)) = true := by simp; omega
      have dci2 : ((i : Int) < (L.length : Int)) = True := by simp; omega
      have dci3 : ((i : Int) < (M.length : Int)) = True := by simp; omega
      have dci0 : ((0 : Int) ≤ (i : Int)) = True := by simp
      have dcw : IntKind.i64.wrap ((i : Int) + 1) = (i : Int) + 1 := wrap_i64 (by omega) (by omega)
      have hlm2 : i < M.length := by omega
      have dcel : (L.map eI)[i]? = some [.sc (.int .i64 L[i])] := by rw [List.getElem?_map, List.getElem?_eq_getElem hlt]; rfl
      have dcem : (M.map eI)[i]? = some [.sc (.int .i64 M[i])] := by rw [List.getElem?_map, List.getElem?_eq_getElem hlm2]; rfl
      by_cases he : L[i] = M[i]
      · have dce : (L[i] == M[i]) = true := by simpa using he
        repeat (first | (with_reducible first | refine AW.seq ?_ | refine AW.block ?_ | refine AW.skip ?_ | refine AW.ret ?_ | refine AW.exit ?_ | refine AW.reg hT ?_) | ((with_reducible show AW _ (.region 6 _ _) _ _ _); (with_reducible refine AW.drawn (id := 6) hT [0,1,2,3,4,5,6,7,8] [[],[],[0,1],[0,1,2],[],[],[4,5],[4,5,6],[0,1,2,3,4,5,6,7]] mix (by kernel_rfl) ?_)) | ((with_reducible show DLeft _ _ _ _ (_ :: _) _ _ _ _); (with_reducible apply DLeft.step hT); (case hoi => ((simp only [List.getElem?_toArray,List.getElem?_cons_zero,List.getElem?_cons_succ]); with_reducible rfl)); (case hg => rfl); (case hk => rfl); (case hr => ((try simp (maxSteps := 3000000) (maxDischargeDepth := 12) only [seval,push_cast,appendX,Try.results58,del,dem,dclm,dci,dci2,dci3,dci0,dcw,dcel,dcem,dce]); with_reducible rfl))) | ((with_reducible refine AW.cond_true ?_ ?_); · rfl) | ((with_reducible refine AW.cond_false ?_ ?_); · rfl) | simp (maxSteps := 3000000) (maxDischargeDepth := 12) only [seval,push_cast,appendX,Try.results58,del,dem,dclm,dci,dci2,dci3,dci0,dcw,dcel,dcem,dce])
        have hic : (((i + 1 : Nat)) : Int) = (i : Int) + 1 := by omega
        exact ⟨L.length + 1 - (i + 1), by omega, i + 1, rfl, hlt, by rw [List.take_succ_eq_append_getElem hlt, List.take_succ_eq_append_getElem hlm2, htk, he], rfl, by (simp only [push_cast, TellsL, tells_any, tells_refl, hic])⟩
      · have dce : (L[i] == M[i]) = false := by simpa using he
        repeat (first | (with_reducible first | refine AW.seq ?_ | refine AW.block ?_ | refine AW.skip ?_ | refine AW.ret ?_ | refine AW.exit ?_ | refine AW.reg hT ?_) | ((with_reducible show AW _ (.region 6 _ _) _ _ _); (with_reducible refine AW.drawn (id := 6) hT [0,1,2,3,4,5,6,7,8] [[],[],[0,1],[0,1,2],[],[],[4,5],[4,5,6],[0,1,2,3,4,5,6,7]] mix (by kernel_rfl) ?_)) | ((with_reducible show DLeft _ _ _ _ (_ :: _) _ _ _ _); (with_reducible apply DLeft.step hT); (case hoi => ((simp only [List.getElem?_toArray,List.getElem?_cons_zero,List.getElem?_cons_succ]); with_reducible rfl)); (case hg => rfl); (case hk => rfl); (case hr => ((try simp (maxSteps := 3000000) (maxDischargeDepth := 12) only [seval,push_cast,appendX,Try.results58,del,dem,dclm,dci,dci2,dci3,dci0,dcw,dcel,dcem,dce]); with_reducible rfl))) | ((with_reducible refine AW.cond_true ?_ ?_); · rfl) | ((with_reducible refine AW.cond_false ?_ ?_); · rfl) | simp (maxSteps := 3000000) (maxDischargeDepth := 12) only [seval,push_cast,appendX,Try.results58,del,dem,dclm,dci,dci2,dci3,dci0,dcw,dcel,dcem,dce])
        refine ⟨false, rfl, by simp; intro h; subst h; exact he rfl⟩
    · have dci : decide ((i : Int) < (L.length : Int)) = false := by simp; omega
      have hLM : L = M := by
        have e1 : L.take i = L := List.take_of_length_le (by omega)
        have e2 : M.take i = M := List.take_of_length_le (by omega)
        rw [e1, e2] at htk; exact htk
      repeat (first | (with_reducible first | refine AW.seq ?_ | refine AW.block ?_ | refine AW.skip ?_ | refine AW.ret ?_ | refine AW.exit ?_ | refine AW.reg hT ?_) | ((with_reducible refine AW.cond_true ?_ ?_); · rfl) | ((with_reducible refine AW.cond_false ?_ ?_); · rfl) | simp (maxSteps := 3000000) (maxDischargeDepth := 12) only [seval,push_cast,appendX,Try.results58,del,dem,dclm,dci])
      exact ⟨true, rfl, by simp [hLM]⟩
  · have dclm : ((L.length : Int) == (M.length : Int)) = false := by simp; omega
    repeat (first | (with_reducible first | refine AW.seq ?_ | refine AW.block ?_ | refine AW.skip ?_ | refine AW.ret ?_ | refine AW.exit ?_ | refine AW.reg hT ?_) | ((with_reducible refine AW.cond_true ?_ ?_); · rfl) | ((with_reducible refine AW.cond_false ?_ ?_); · rfl) | simp (maxSteps := 3000000) (maxDischargeDepth := 12) only [seval,push_cast,appendX,Try.results58,del,dem,dclm])
    exact ⟨false, rfl, by simp; intro h; exact hlm (congrArg _ h)⟩
theorem eqWant (x y : Mg) : eqAggD T 38 [.sc (.int .u64 x.bw), .sc (.int .i64 x.su), .sc (.int .i64 x.ho), .sc (.int .u32 x.an), .sc (.int .u32 x.al), .sc (.int .u32 x.no)] [.sc (.int .u64 y.bw), .sc (.int .i64 y.su), .sc (.int .i64 y.ho), .sc (.int .u32 y.an), .sc (.int .u32 y.al), .sc (.int .u32 y.no)] = some (decide (x.bw = y.bw ∧ x.su = y.su ∧ x.ho = y.ho ∧ x.an = y.an ∧ x.al = y.al ∧ x.no = y.no)) := by
  obtain ⟨b, h1, h2⟩ : ∃ b, eqAggD T 38 [.sc (.int .u64 x.bw), .sc (.int .i64 x.su), .sc (.int .i64 x.ho), .sc (.int .u32 x.an), .sc (.int .u32 x.al), .sc (.int .u32 x.no)] [.sc (.int .u64 y.bw), .sc (.int .i64 y.su), .sc (.int .i64 y.ho), .sc (.int .u32 y.an), .sc (.int .u32 y.al), .sc (.int .u32 y.no)] = some b ∧ (b = true ↔ x.bw = y.bw ∧ x.su = y.su ∧ x.ho = y.ho ∧ x.an = y.an ∧ x.al = y.al ∧ x.no = y.no) := ⟨_, rfl, by simp [eqvL, eqv]⟩
  rw [h1]
  congr 1
  rw [Bool.eq_iff_iff, h2, decide_eq_true_iff]
theorem eqKey (x y : Mg) : eqAggD T 34 [.sc (.int .i64 x.tail), .sc (.int .i64 x.tun), .sc (.int .i64 x.hd), .sc (.int .i64 x.lsp)] [.sc (.int .i64 y.tail), .sc (.int .i64 y.tun), .sc (.int .i64 y.hd), .sc (.int .i64 y.lsp)] = some (decide (x.tail = y.tail ∧ x.tun = y.tun ∧ x.hd = y.hd ∧ x.lsp = y.lsp)) := by
  obtain ⟨b, h1, h2⟩ : ∃ b, eqAggD T 34 [.sc (.int .i64 x.tail), .sc (.int .i64 x.tun), .sc (.int .i64 x.hd), .sc (.int .i64 x.lsp)] [.sc (.int .i64 y.tail), .sc (.int .i64 y.tun), .sc (.int .i64 y.hd), .sc (.int .i64 y.lsp)] = some b ∧ (b = true ↔ x.tail = y.tail ∧ x.tun = y.tun ∧ x.hd = y.hd ∧ x.lsp = y.lsp) := ⟨_, rfl, by simp [eqvL, eqv]⟩
  rw [h1]
  congr 1
  rw [Bool.eq_iff_iff, h2, decide_eq_true_iff]
theorem Me.ext_iff' (a b : Me) : a = b ↔ a.rt = b.rt ∧ a.rc = b.rc ∧ a.m.ty = b.m.ty ∧ a.m.ttl = b.m.ttl ∧ (a.m.tail = b.m.tail ∧ a.m.tun = b.m.tun ∧ a.m.hd = b.m.hd ∧ a.m.lsp = b.m.lsp) ∧ a.m.fro = b.m.fro ∧ a.m.per = b.m.per ∧ a.m.ser = b.m.ser ∧ (a.m.bw = b.m.bw ∧ a.m.su = b.m.su ∧ a.m.ho = b.m.ho ∧ a.m.an = b.m.an ∧ a.m.al = b.m.al ∧ a.m.no = b.m.no) ∧ a.m.lab = b.m.lab ∧ a.m.whr = b.m.whr ∧ a.m.code = b.m.code := by
  obtain ⟨⟨_, _, _, _, _, _, _, _, _, _, _, _, _, _, _, _, _, _⟩, _, _⟩ := a
  obtain ⟨⟨_, _, _, _, _, _, _, _, _, _, _, _, _, _, _, _, _, _⟩, _, _⟩ := b
  simp only [Me.mk.injEq, Mg.mk.injEq]
  constructor <;> intro h <;> simp [h]
end Go.Proofs.Ytdkhlhfdjggbpaa.Cm
