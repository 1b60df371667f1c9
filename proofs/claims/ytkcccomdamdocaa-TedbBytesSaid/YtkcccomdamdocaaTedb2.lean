/- The law's Theirs and Ours, the document's Same and place, package tedb's search. -/
import Derived.Test.YtkcccomdamdocaaTedb1
import Derived.Test.YtkcccomdamdocaaCmLib3
namespace Go.Proofs.Ytkcccomdamdocaa.Cm
open Go.RowKit
set_option linter.unusedVariables false
set_option linter.unusedSimpArgs false
set_option maxRecDepth 20000
set_option maxHeartbeats 8000000
theorem theirs_ok (σ : Heap) (x : Ad) : ACalls Try.prog 15 [.agg (eA x)] σ (fun y σ' => y = .agg (eA x) ∧ Ext [] σ σ') := by
  simp only [eA_eq]
  refine ACalls.code hT Try.func15 rfl ?_
  simp only [Try.ntmps15, List.length_cons, List.length_nil, Nat.reduceSub, Nat.reduceAdd, List.replicate, List.cons_append, List.nil_append]
  repeat (first | (with_reducible refine AW.seq ?_) | (with_reducible refine AW.block ?_) | (with_reducible refine AW.skip ?_) | (with_reducible refine AW.ret ?_) | (with_reducible refine AW.exit ?_) | (with_reducible refine AW.reg hT ?_) | ((with_reducible refine AW.cond_true ?_ ?_); · rfl) | ((with_reducible refine AW.cond_false ?_ ?_); · rfl) | simp (maxSteps := 3000000) (maxDischargeDepth := 12) only [push_cast,appendX,reduceIte,reduceCtorEq,Nat.reduceSub,Nat.reduceAdd,Nat.reduceMul,Nat.reduceLT,Nat.reduceLeDiff,Nat.reduceEqDiff,Nat.reduceBEq,Int.reduceToNat,Int.reduceLT,Int.reduceLE,Int.reduceEq,Int.reduceNeg,Try.results15])
  repeat (first | exact Ext.refl _ _ | assumption | refine Ext.push ?_ _ | ((refine Ext.set ?_ ?_ _); rotate_left; · (simp (maxSteps := 3000000) (maxDischargeDepth := 12) only [push_cast, appendX, Nat.reduceAdd, Nat.reduceEqDiff, Nat.reduceLT, Nat.reduceLeDiff, reduceIte, reduceCtorEq])) | ((refine Ext.then1 (by assumption) ?_ ?_); rotate_left; · (intro p hp _; first | assumption | exact List.mem_cons_of_mem _ hp | (cases hp; done) | (simp at hp; subst hp; simp))))
def ouI (l : List Ad) (σ0 : Heap) (m : Nat) (ts : List DV) (σ : Heap) : Prop := ∃ i d, m = l.length + 1 - i ∧ i ≤ l.length ∧ Hold σ d 42 ((l.take i).map eA) ∧ (∀ q ∈ tOf d, σ0.n ≤ q) ∧ Ext [] σ0 σ ∧ TellsL ts (.any :: .any :: .any :: d :: .any :: .any :: .imm (l.map eA) :: .sc (.int .i64 l.length) :: .sc (.int .i64 i) :: .any :: .any :: .any :: .any :: .any :: .any :: .any :: .any :: .any :: .any :: .any :: .any :: .any :: .any :: .any :: .any :: .any :: [])
theorem ours_ok (σ : Heap) (l : List Ad) (hl : l.length ≤ 1000000) : ACalls Try.prog 18 [.imm (l.map eA)] σ (fun x σ' => x = .imm (l.map eA) ∧ Ext [] σ σ') := by
  have dcml : (l.map eA).length = l.length := by simp
  refine ACalls.toImmH (e := 42) ?_
  refine ACalls.code hT Try.func18 rfl ?_
  simp only [Try.ntmps18, List.length_cons, List.length_nil, Nat.reduceSub, Nat.reduceAdd, List.replicate, List.cons_append, List.nil_append]
  repeat (first | (with_reducible refine AW.seq ?_) | (with_reducible refine AW.block ?_) | (with_reducible refine AW.skip ?_) | (with_reducible refine AW.ret ?_) | (with_reducible refine AW.exit ?_) | (with_reducible refine AW.reg hT ?_) | ((with_reducible refine AW.cond_true ?_ ?_); · rfl) | ((with_reducible refine AW.cond_false ?_ ?_); · rfl) | simp (maxSteps := 3000000) (maxDischargeDepth := 12) only [push_cast,appendX,reduceIte,reduceCtorEq,Nat.reduceSub,Nat.reduceAdd,Nat.reduceMul,Nat.reduceLT,Nat.reduceLeDiff,Nat.reduceEqDiff,Nat.reduceBEq,Int.reduceToNat,Int.reduceLT,Int.reduceLE,Int.reduceEq,Int.reduceNeg,Try.results18,dcml])
  refine AW.loop (ouI l σ) (m := l.length + 1) ⟨0, .sc (.slice none 0 0), rfl, Nat.zero_le _, Hold.nil _ _, by simp [tOf], Ext.refl _ _, by (simp only [push_cast, TellsL, tells_any, tells_refl])⟩ ?_
  rintro m ts σ3 ⟨i, d, rfl, hil, hh, hnew, xt3, hts⟩
  refine AW.told hts ?_
  clear hts
  by_cases hi : i < l.length
  · have dci : decide ((i : Int) < (l.length : Int)) = true := by simp; omega
    have dci2 : ((i : Int) < (l.length : Int)) = True := by simp; omega
    have dci0 : ((0 : Int) ≤ (i : Int)) = True := by simp
    obtain ⟨x, hx⟩ : ∃ x, x = l[i] := ⟨_, rfl⟩
    have dcel : (l.map eA)[i]? = some (eA x) := by rw [List.getElem?_map, List.getElem?_eq_getElem hi, hx]; rfl
    rw [eA_eq] at dcel
    have dcw : IntKind.i64.wrap ((i : Int) + 1) = (i : Int) + 1 := wrap_i64 (by omega) (by omega)
    have htk : (l.take (i + 1)).map eA = (l.take i).map eA ++ [eA x] := by rw [List.take_add_one, List.getElem?_eq_getElem hi, ← hx]; simp
    obtain ⟨d5, σ5, dnapp, hh5, hnew5, xt5⟩ := Hold.app1 (ty := 25) (x := eA x) (σ := (σ3.push ⟨[[.sc (.int .i64 0), .sc (.int .i64 0), .sc (.int .u64 0), .sc (.int .i64 0), .sc (.int .u32 0), .sc (.int .i64 0), .sc (.bool false), .sc (.int .u64 0), .sc (.int .u64 0), .sc (.int .u64 0), .sc (.int .u64 0), .sc (.int .u64 0), .sc (.int .u64 0), .sc (.int .u64 0), .sc (.int .u64 0)]], 40, true⟩).set σ3.n ⟨[eA x], 40, true⟩) (hh.frame (X := []) (by repeat (first | exact Ext.refl _ _ | assumption | refine Ext.push ?_ _ | ((refine Ext.set ?_ ?_ _); rotate_left; · (simp (maxSteps := 3000000) (maxDischargeDepth := 12) only [push_cast, appendX, Nat.reduceAdd, Nat.reduceEqDiff, Nat.reduceLT, Nat.reduceLeDiff, reduceIte, reduceCtorEq, dcml, xt3.2, xt3.ltT, xt3.leT, dci, dci2, dci0, dcel, dcw])) | ((refine Ext.then1 (by assumption) ?_ ?_); rotate_left; · (intro p hp _; first | assumption | exact List.mem_cons_of_mem _ hp | (cases hp; done) | (simp at hp; subst hp; simp))))) (by simp)) hnew (by repeat (first | exact Ext.refl _ _ | assumption | refine Ext.push ?_ _ | ((refine Ext.set ?_ ?_ _); rotate_left; · (simp (maxSteps := 3000000) (maxDischargeDepth := 12) only [push_cast, appendX, Nat.reduceAdd, Nat.reduceEqDiff, Nat.reduceLT, Nat.reduceLeDiff, reduceIte, reduceCtorEq, dcml, xt3.2, xt3.ltT, xt3.leT, dci, dci2, dci0, dcel, dcw])) | ((refine Ext.then1 (by assumption) ?_ ?_); rotate_left; · (intro p hp _; first | assumption | exact List.mem_cons_of_mem _ hp | (cases hp; done) | (simp at hp; subst hp; simp))))) rfl rfl (by decide) rfl (by simp; omega)
    simp only [eA_eq, Heap.n_set, Heap.n_push] at dnapp
    repeat (first | (with_reducible refine AW.seq ?_) | (with_reducible refine AW.block ?_) | (with_reducible refine AW.skip ?_) | (with_reducible refine AW.ret ?_) | (with_reducible refine AW.exit ?_) | (with_reducible refine AW.reg hT ?_) | ((with_reducible refine AW.cond_true ?_ ?_); · rfl) | ((with_reducible refine AW.cond_false ?_ ?_); · rfl) | simp (maxSteps := 3000000) (maxDischargeDepth := 12) only [push_cast,appendX,reduceIte,reduceCtorEq,Nat.reduceSub,Nat.reduceAdd,Nat.reduceMul,Nat.reduceLT,Nat.reduceLeDiff,Nat.reduceEqDiff,Nat.reduceBEq,Int.reduceToNat,Int.reduceLT,Int.reduceLE,Int.reduceEq,Int.reduceNeg,Try.results18,dcml,xt3.2,xt3.ltT,xt3.leT,dci,dci2,dci0,dcel,dcw,↓dnapp,xt5.2,xt5.ltT,xt5.leT])
    exact ⟨l.length + 1 - (i + 1), by omega, i + 1, d5, rfl, hi, by rw [htk]; exact hh5, hnew5, xt5, by (simp only [push_cast, TellsL, tells_any, tells_refl])⟩
  · have dci : decide ((i : Int) < (l.length : Int)) = false := by simp; omega
    have he : i = l.length := by omega
    subst he
    rw [List.take_length] at hh
    have dncl := hh.cells
    have dnlf := hh.leaf
    repeat (first | (with_reducible refine AW.seq ?_) | (with_reducible refine AW.block ?_) | (with_reducible refine AW.skip ?_) | (with_reducible refine AW.ret ?_) | (with_reducible refine AW.exit ?_) | (with_reducible refine AW.reg hT ?_) | ((with_reducible refine AW.cond_true ?_ ?_); · rfl) | ((with_reducible refine AW.cond_false ?_ ?_); · rfl) | simp (maxSteps := 3000000) (maxDischargeDepth := 12) only [push_cast,appendX,reduceIte,reduceCtorEq,Nat.reduceSub,Nat.reduceAdd,Nat.reduceMul,Nat.reduceLT,Nat.reduceLeDiff,Nat.reduceEqDiff,Nat.reduceBEq,Int.reduceToNat,Int.reduceLT,Int.reduceLE,Int.reduceEq,Int.reduceNeg,Try.results18,dcml,xt3.2,xt3.ltT,xt3.leT,dci,↓dncl,↓dnlf])
    exact ⟨hh, hnew, xt3⟩
def saI (l : List Ad) (σ0 : Heap) (m : Nat) (ts : List DV) (σ : Heap) : Prop := ∃ i, m = l.length + 1 - i ∧ i ≤ l.length ∧ Ext [] σ0 σ ∧ TellsL ts (.imm (l.map eA) :: .imm (l.map eA) :: .any :: .any :: .any :: .sc (.int .i64 i) :: .any :: .any :: .any :: .any :: .any :: .any :: .any :: .any :: .any :: .any :: .any :: .any :: .any :: .any :: .any :: .any :: .any :: .any :: .any :: .any :: [])
theorem same_ok (σ : Heap) (l : List Ad) (hl : l.length ≤ 1000000) : ACalls Try.prog 17 [.imm (l.map eA), .imm (l.map eA)] σ (fun x σ' => x = .sc (.bool true) ∧ Ext [] σ σ') := by
  have dcml : (l.map eA).length = l.length := by simp
  refine ACalls.code hT Try.func17 rfl ?_
  simp only [Try.ntmps17, List.length_cons, List.length_nil, Nat.reduceSub, Nat.reduceAdd, List.replicate, List.cons_append, List.nil_append]
  repeat (first | (with_reducible refine AW.seq ?_) | (with_reducible refine AW.block ?_) | (with_reducible refine AW.skip ?_) | (with_reducible refine AW.ret ?_) | (with_reducible refine AW.exit ?_) | (with_reducible refine AW.reg hT ?_) | (with_reducible refine AW.drawn (id := 6) hT [0,1,2,3,4,5,6,7,8] [[],[],[0,1],[0,1,2],[],[],[4,5],[4,5,6],[0,1,2,3,4,5,6,7]] mix (by kernel_rfl) ?_) | ((with_reducible show DLeft _ _ _ _ (_ :: _) _ _ _ _); (with_reducible apply DLeft.step hT); (case hoi => ((simp only [List.getElem?_toArray,List.getElem?_cons_zero,List.getElem?_cons_succ]); with_reducible rfl)); (case hg => rfl); (case hk => rfl); (case hr => ((try simp (maxSteps := 3000000) (maxDischargeDepth := 12) only [push_cast,appendX,reduceIte,reduceCtorEq,Nat.reduceSub,Nat.reduceAdd,Nat.reduceMul,Nat.reduceLT,Nat.reduceLeDiff,Nat.reduceEqDiff,Nat.reduceBEq,Int.reduceToNat,Int.reduceLT,Int.reduceLE,Int.reduceEq,Int.reduceNeg,Try.results17,dcml]); with_reducible rfl))) | ((with_reducible refine AW.cond_true ?_ ?_); · rfl) | ((with_reducible refine AW.cond_false ?_ ?_); · rfl) | simp (maxSteps := 3000000) (maxDischargeDepth := 12) only [push_cast,appendX,reduceIte,reduceCtorEq,Nat.reduceSub,Nat.reduceAdd,Nat.reduceMul,Nat.reduceLT,Nat.reduceLeDiff,Nat.reduceEqDiff,Nat.reduceBEq,Int.reduceToNat,Int.reduceLT,Int.reduceLE,Int.reduceEq,Int.reduceNeg,Try.results17,dcml])
  refine AW.loop (saI l σ) (m := l.length + 1) ⟨0, rfl, Nat.zero_le _, Ext.refl _ _, by (simp only [push_cast, TellsL, tells_any, tells_refl])⟩ ?_
  rintro m ts σ3 ⟨i, rfl, hil, xt3, hts⟩
  refine AW.told hts ?_
  clear hts
  by_cases hi : i < l.length
  · have dci : decide ((i : Int) < (l.length : Int)) = true := by simp; omega
    have dci2 : ((i : Int) < (l.length : Int)) = True := by simp; omega
    have dci0 : ((0 : Int) ≤ (i : Int)) = True := by simp
    obtain ⟨x, hx⟩ : ∃ x, x = l[i] := ⟨_, rfl⟩
    have dcel : (l.map eA)[i]? = some (eA x) := by rw [List.getElem?_map, List.getElem?_eq_getElem hi, hx]; rfl
    rw [eA_eq] at dcel
    have dcw : IntKind.i64.wrap ((i : Int) + 1) = (i : Int) + 1 := wrap_i64 (by omega) (by omega)
    repeat (first | (with_reducible refine AW.seq ?_) | (with_reducible refine AW.block ?_) | (with_reducible refine AW.skip ?_) | (with_reducible refine AW.ret ?_) | (with_reducible refine AW.exit ?_) | (with_reducible refine AW.reg hT ?_) | (with_reducible refine AW.drawn (id := 6) hT [0,1,2,3,4,5,6,7,8] [[],[],[0,1],[0,1,2],[],[],[4,5],[4,5,6],[0,1,2,3,4,5,6,7]] mix (by kernel_rfl) ?_) | ((with_reducible show DLeft _ _ _ _ (_ :: _) _ _ _ _); (with_reducible apply DLeft.step hT); (case hoi => ((simp only [List.getElem?_toArray,List.getElem?_cons_zero,List.getElem?_cons_succ]); with_reducible rfl)); (case hg => rfl); (case hk => rfl); (case hr => ((try simp (maxSteps := 3000000) (maxDischargeDepth := 12) only [push_cast,appendX,reduceIte,reduceCtorEq,Nat.reduceSub,Nat.reduceAdd,Nat.reduceMul,Nat.reduceLT,Nat.reduceLeDiff,Nat.reduceEqDiff,Nat.reduceBEq,Int.reduceToNat,Int.reduceLT,Int.reduceLE,Int.reduceEq,Int.reduceNeg,Try.results17,dcml,xt3.2,xt3.ltT,xt3.leT,dci,dci2,dci0,dcel,dcw]); with_reducible rfl))) | ((with_reducible refine AW.cond_true ?_ ?_); · rfl) | ((with_reducible refine AW.cond_false ?_ ?_); · rfl) | simp (maxSteps := 3000000) (maxDischargeDepth := 12) only [push_cast,appendX,reduceIte,reduceCtorEq,Nat.reduceSub,Nat.reduceAdd,Nat.reduceMul,Nat.reduceLT,Nat.reduceLeDiff,Nat.reduceEqDiff,Nat.reduceBEq,Int.reduceToNat,Int.reduceLT,Int.reduceLE,Int.reduceEq,Int.reduceNeg,Try.results17,dcml,xt3.2,xt3.ltT,xt3.leT,dci,dci2,dci0,dcel,dcw])
    exact ⟨l.length + 1 - (i + 1), by omega, i + 1, rfl, hi, xt3, by (simp only [push_cast, TellsL, tells_any, tells_refl])⟩
  · have dci : decide ((i : Int) < (l.length : Int)) = false := by simp; omega
    repeat (first | (with_reducible refine AW.seq ?_) | (with_reducible refine AW.block ?_) | (with_reducible refine AW.skip ?_) | (with_reducible refine AW.ret ?_) | (with_reducible refine AW.exit ?_) | (with_reducible refine AW.reg hT ?_) | (with_reducible refine AW.drawn (id := 6) hT [0,1,2,3,4,5,6,7,8] [[],[],[0,1],[0,1,2],[],[],[4,5],[4,5,6],[0,1,2,3,4,5,6,7]] mix (by kernel_rfl) ?_) | ((with_reducible show DLeft _ _ _ _ (_ :: _) _ _ _ _); (with_reducible apply DLeft.step hT); (case hoi => ((simp only [List.getElem?_toArray,List.getElem?_cons_zero,List.getElem?_cons_succ]); with_reducible rfl)); (case hg => rfl); (case hk => rfl); (case hr => ((try simp (maxSteps := 3000000) (maxDischargeDepth := 12) only [push_cast,appendX,reduceIte,reduceCtorEq,Nat.reduceSub,Nat.reduceAdd,Nat.reduceMul,Nat.reduceLT,Nat.reduceLeDiff,Nat.reduceEqDiff,Nat.reduceBEq,Int.reduceToNat,Int.reduceLT,Int.reduceLE,Int.reduceEq,Int.reduceNeg,Try.results17,dcml,xt3.2,xt3.ltT,xt3.leT,dci]); with_reducible rfl))) | ((with_reducible refine AW.cond_true ?_ ?_); · rfl) | ((with_reducible refine AW.cond_false ?_ ?_); · rfl) | simp (maxSteps := 3000000) (maxDischargeDepth := 12) only [push_cast,appendX,reduceIte,reduceCtorEq,Nat.reduceSub,Nat.reduceAdd,Nat.reduceMul,Nat.reduceLT,Nat.reduceLeDiff,Nat.reduceEqDiff,Nat.reduceBEq,Int.reduceToNat,Int.reduceLT,Int.reduceLE,Int.reduceEq,Int.reduceNeg,Try.results17,dcml,xt3.2,xt3.ltT,xt3.leT,dci])
    exact xt3
def atA (a b : Int) (x : Ad) : Prop := x.f0.f0 = a ∧ x.f0.f1 = b
instance (a b : Int) (x : Ad) : Decidable (atA a b x) := by unfold atA; infer_instance
def pl (l : List Ad) (a b : Int) : Int := match l.findIdx? (fun x => decide (atA a b x)) with | some i => (i : Int) | none => -1
theorem pl_at (l : List Ad) (a b : Int) (i : Nat) (hi : i < l.length) (h1 : ∀ y ∈ l.take i, ¬ atA a b y) (h2 : atA a b l[i]) : pl l a b = i := by
  have : l.findIdx? (fun x => decide (atA a b x)) = some i := by
    rw [List.findIdx?_eq_some_iff_getElem]
    refine ⟨hi, by simpa using h2, fun j hj => ?_⟩
    have := h1 l[j] (List.mem_iff_getElem.2 ⟨j, by simp; omega, by simp⟩)
    simpa using this
  simp only [pl, this]
theorem pl_none (l : List Ad) (a b : Int) (h1 : ∀ y ∈ l, ¬ atA a b y) : pl l a b = -1 := by
  have : l.findIdx? (fun x => decide (atA a b x)) = none := by
    rw [List.findIdx?_eq_none_iff]
    exact fun y hy => by simpa using h1 y hy
  simp only [pl, this]
theorem no_next (l : List Ad) (a b : Int) (i : Nat) (hi : i < l.length) (hno : ∀ y ∈ l.take i, ¬ atA a b y) (h1 : ¬ atA a b l[i]) : ∀ y ∈ l.take (i + 1), ¬ atA a b y := by
  rw [List.take_add_one, List.getElem?_eq_getElem hi, Option.toList_some]
  intro y hy
  rcases List.mem_append.1 hy with hy | hy
  · exact hno y hy
  · rw [List.mem_singleton.1 hy]; exact h1
theorem at_split (a b : Int) (x : Ad) (h1 : ¬ atA a b x) : ((x.f0.f0 == a) = true ∧ (x.f0.f1 == b) = false) ∨ (x.f0.f0 == a) = false := by
  by_cases h : x.f0.f0 = a
  · exact .inl ⟨by simpa using h, by simpa using fun h2 => h1 ⟨h, h2⟩⟩
  · exact .inr (by simpa using h)
def plI (l : List Ad) (a b : Int) (σ0 : Heap) (m : Nat) (ts : List DV) (σ : Heap) : Prop := ∃ i, m = l.length + 1 - i ∧ i ≤ l.length ∧ (∀ y ∈ l.take i, ¬ atA a b y) ∧ σ = σ0 ∧ TellsL ts (.imm (l.map eA) :: .sc (.int .i64 a) :: .sc (.int .i64 b) :: .any :: .any :: .any :: .any :: .sc (.int .i64 i) :: .any :: .any :: .any :: .any :: .any :: .any :: .any :: .any :: .any :: .any :: .any :: .any :: .any :: .any :: .any :: .any :: .any :: .any :: .any :: .any :: .any :: .any :: .any :: .any :: .any :: [])
theorem place_ok (σ : Heap) (l : List Ad) (a b : Int) (hl : l.length ≤ 1000000) : ACalls Try.prog 34 [.imm (l.map eA), .sc (.int .i64 a), .sc (.int .i64 b)] σ (fun x σ' => x = .sc (.int .i64 (pl l a b)) ∧ σ' = σ) := by
  have dcml : (l.map eA).length = l.length := by simp
  refine ACalls.code hT Try.func34 rfl ?_
  simp only [Try.ntmps34, List.length_cons, List.length_nil, Nat.reduceSub, Nat.reduceAdd, List.replicate, List.cons_append, List.nil_append]
  repeat (first | (with_reducible refine AW.seq ?_) | (with_reducible refine AW.block ?_) | (with_reducible refine AW.skip ?_) | (with_reducible refine AW.ret ?_) | (with_reducible refine AW.exit ?_) | (with_reducible refine AW.reg hT ?_) | ((with_reducible refine AW.cond_true ?_ ?_); · rfl) | ((with_reducible refine AW.cond_false ?_ ?_); · rfl) | simp (maxSteps := 3000000) (maxDischargeDepth := 12) only [push_cast,appendX,reduceIte,reduceCtorEq,Nat.reduceSub,Nat.reduceAdd,Nat.reduceMul,Nat.reduceLT,Nat.reduceLeDiff,Nat.reduceEqDiff,Nat.reduceBEq,Int.reduceToNat,Int.reduceLT,Int.reduceLE,Int.reduceEq,Int.reduceNeg,Try.results34,dcml])
  refine AW.loop (plI l a b σ) (m := l.length + 1) ⟨0, rfl, Nat.zero_le _, by simp, rfl, by (simp only [push_cast, TellsL, tells_any, tells_refl])⟩ ?_
  rintro m ts σ3 ⟨i, rfl, hil, hno, rfl, hts⟩
  refine AW.told hts ?_
  clear hts
  by_cases hi : i < l.length
  · have dci : decide ((i : Int) < (l.length : Int)) = true := by simp; omega
    have dci2 : ((i : Int) < (l.length : Int)) = True := by simp; omega
    have dci0 : ((0 : Int) ≤ (i : Int)) = True := by simp
    obtain ⟨x, hx⟩ : ∃ x, x = l[i] := ⟨_, rfl⟩
    have dcel : (l.map eA)[i]? = some (eA x) := by rw [List.getElem?_map, List.getElem?_eq_getElem hi, hx]; rfl
    rw [eA_eq] at dcel
    have dcw : IntKind.i64.wrap ((i : Int) + 1) = (i : Int) + 1 := wrap_i64 (by omega) (by omega)
    by_cases h1 : atA a b x
    · have dc1 : (x.f0.f0 == a) = true := by simpa using h1.1
      have dc2 : (x.f0.f1 == b) = true := by simpa using h1.2
      repeat (first | (with_reducible refine AW.seq ?_) | (with_reducible refine AW.block ?_) | (with_reducible refine AW.skip ?_) | (with_reducible refine AW.ret ?_) | (with_reducible refine AW.exit ?_) | (with_reducible refine AW.reg hT ?_) | ((with_reducible refine AW.cond_true ?_ ?_); · rfl) | ((with_reducible refine AW.cond_false ?_ ?_); · rfl) | simp (maxSteps := 3000000) (maxDischargeDepth := 12) only [push_cast,appendX,reduceIte,reduceCtorEq,Nat.reduceSub,Nat.reduceAdd,Nat.reduceMul,Nat.reduceLT,Nat.reduceLeDiff,Nat.reduceEqDiff,Nat.reduceBEq,Int.reduceToNat,Int.reduceLT,Int.reduceLE,Int.reduceEq,Int.reduceNeg,Try.results34,dcml,dci,dci2,dci0,dcel,dcw,dc1,dc2])
      rw [pl_at l a b i hi hno (by rw [← hx]; exact h1)]
    · have hno' := no_next l a b i hi hno (by rw [← hx]; exact h1)
      rcases at_split a b x h1 with ⟨dc1, dc2⟩ | dc1
      · repeat (first | (with_reducible refine AW.seq ?_) | (with_reducible refine AW.block ?_) | (with_reducible refine AW.skip ?_) | (with_reducible refine AW.ret ?_) | (with_reducible refine AW.exit ?_) | (with_reducible refine AW.reg hT ?_) | ((with_reducible refine AW.cond_true ?_ ?_); · rfl) | ((with_reducible refine AW.cond_false ?_ ?_); · rfl) | simp (maxSteps := 3000000) (maxDischargeDepth := 12) only [push_cast,appendX,reduceIte,reduceCtorEq,Nat.reduceSub,Nat.reduceAdd,Nat.reduceMul,Nat.reduceLT,Nat.reduceLeDiff,Nat.reduceEqDiff,Nat.reduceBEq,Int.reduceToNat,Int.reduceLT,Int.reduceLE,Int.reduceEq,Int.reduceNeg,Try.results34,dc2,dcml,dci,dci2,dci0,dcel,dcw,dc1])
        exact ⟨l.length + 1 - (i + 1), by omega, i + 1, rfl, hi, hno', rfl, by (simp only [push_cast, TellsL, tells_any, tells_refl])⟩
      · repeat (first | (with_reducible refine AW.seq ?_) | (with_reducible refine AW.block ?_) | (with_reducible refine AW.skip ?_) | (with_reducible refine AW.ret ?_) | (with_reducible refine AW.exit ?_) | (with_reducible refine AW.reg hT ?_) | ((with_reducible refine AW.cond_true ?_ ?_); · rfl) | ((with_reducible refine AW.cond_false ?_ ?_); · rfl) | simp (maxSteps := 3000000) (maxDischargeDepth := 12) only [push_cast,appendX,reduceIte,reduceCtorEq,Nat.reduceSub,Nat.reduceAdd,Nat.reduceMul,Nat.reduceLT,Nat.reduceLeDiff,Nat.reduceEqDiff,Nat.reduceBEq,Int.reduceToNat,Int.reduceLT,Int.reduceLE,Int.reduceEq,Int.reduceNeg,Try.results34,dcml,dci,dci2,dci0,dcel,dcw,dc1])
        exact ⟨l.length + 1 - (i + 1), by omega, i + 1, rfl, hi, hno', rfl, by (simp only [push_cast, TellsL, tells_any, tells_refl])⟩
  · have dci : decide ((i : Int) < (l.length : Int)) = false := by simp; omega
    have he : i = l.length := by omega
    subst he
    rw [List.take_length] at hno
    repeat (first | (with_reducible refine AW.seq ?_) | (with_reducible refine AW.block ?_) | (with_reducible refine AW.skip ?_) | (with_reducible refine AW.ret ?_) | (with_reducible refine AW.exit ?_) | (with_reducible refine AW.reg hT ?_) | ((with_reducible refine AW.cond_true ?_ ?_); · rfl) | ((with_reducible refine AW.cond_false ?_ ?_); · rfl) | simp (maxSteps := 3000000) (maxDischargeDepth := 12) only [push_cast,appendX,reduceIte,reduceCtorEq,Nat.reduceSub,Nat.reduceAdd,Nat.reduceMul,Nat.reduceLT,Nat.reduceLeDiff,Nat.reduceEqDiff,Nat.reduceBEq,Int.reduceToNat,Int.reduceLT,Int.reduceLE,Int.reduceEq,Int.reduceNeg,Try.results34,dcml,dci])
    rw [pl_none l a b hno]
theorem clo_ok (σ : Heap) {q : Nat} (x a : Ad) (gtq : σ.get q = some ⟨[eA a], 40, true⟩) : ACalls Try.prog 33 [.agg (eA x), .ptr q 0 0 1] σ (fun y σ' => y = .sc (.bool (decide (atA a.f0.f0 a.f0.f1 x))) ∧ Ext [] σ σ') := by
  rw [eA_eq] at gtq
  simp only [eA_eq]
  refine ACalls.code hT Try.func33 rfl ?_
  simp only [Try.ntmps33, List.length_cons, List.length_nil, Nat.reduceSub, Nat.reduceAdd, List.replicate, List.cons_append, List.nil_append]
  by_cases hA0 : x.f0.f0 = a.f0.f0
  · have dcA0 : (x.f0.f0 == a.f0.f0) = true := by simpa using hA0
    by_cases hA1 : x.f0.f1 = a.f0.f1
    · have dcA1 : (x.f0.f1 == a.f0.f1) = true := by simpa using hA1
      repeat (first | (with_reducible refine AW.seq ?_) | (with_reducible refine AW.block ?_) | (with_reducible refine AW.skip ?_) | (with_reducible refine AW.ret ?_) | (with_reducible refine AW.exit ?_) | (with_reducible refine AW.reg hT ?_) | ((with_reducible refine AW.cond_true ?_ ?_); · rfl) | ((with_reducible refine AW.cond_false ?_ ?_); · rfl) | simp (maxSteps := 3000000) (maxDischargeDepth := 12) only [push_cast,appendX,reduceIte,reduceCtorEq,Nat.reduceSub,Nat.reduceAdd,Nat.reduceMul,Nat.reduceLT,Nat.reduceLeDiff,Nat.reduceEqDiff,Nat.reduceBEq,Int.reduceToNat,Int.reduceLT,Int.reduceLE,Int.reduceEq,Int.reduceNeg,Try.results33,gtq,Heap.lt gtq,dcA0,dcA1])
      refine ⟨by simp [atA, *], ?_⟩
      repeat (first | exact Ext.refl _ _ | assumption | refine Ext.push ?_ _ | ((refine Ext.set ?_ ?_ _); rotate_left; · (simp (maxSteps := 3000000) (maxDischargeDepth := 12) only [push_cast, appendX, Nat.reduceAdd, Nat.reduceEqDiff, Nat.reduceLT, Nat.reduceLeDiff, reduceIte, reduceCtorEq, gtq, Heap.lt gtq, dcA0, dcA1])) | ((refine Ext.then1 (by assumption) ?_ ?_); rotate_left; · (intro p hp _; first | assumption | exact List.mem_cons_of_mem _ hp | (cases hp; done) | (simp at hp; subst hp; simp))))
    · have dcA1 : (x.f0.f1 == a.f0.f1) = false := by simpa using hA1
      repeat (first | (with_reducible refine AW.seq ?_) | (with_reducible refine AW.block ?_) | (with_reducible refine AW.skip ?_) | (with_reducible refine AW.ret ?_) | (with_reducible refine AW.exit ?_) | (with_reducible refine AW.reg hT ?_) | ((with_reducible refine AW.cond_true ?_ ?_); · rfl) | ((with_reducible refine AW.cond_false ?_ ?_); · rfl) | simp (maxSteps := 3000000) (maxDischargeDepth := 12) only [push_cast,appendX,reduceIte,reduceCtorEq,Nat.reduceSub,Nat.reduceAdd,Nat.reduceMul,Nat.reduceLT,Nat.reduceLeDiff,Nat.reduceEqDiff,Nat.reduceBEq,Int.reduceToNat,Int.reduceLT,Int.reduceLE,Int.reduceEq,Int.reduceNeg,Try.results33,gtq,Heap.lt gtq,dcA0,dcA1])
      refine ⟨by simp [atA, *], ?_⟩
      repeat (first | exact Ext.refl _ _ | assumption | refine Ext.push ?_ _ | ((refine Ext.set ?_ ?_ _); rotate_left; · (simp (maxSteps := 3000000) (maxDischargeDepth := 12) only [push_cast, appendX, Nat.reduceAdd, Nat.reduceEqDiff, Nat.reduceLT, Nat.reduceLeDiff, reduceIte, reduceCtorEq, gtq, Heap.lt gtq, dcA0, dcA1])) | ((refine Ext.then1 (by assumption) ?_ ?_); rotate_left; · (intro p hp _; first | assumption | exact List.mem_cons_of_mem _ hp | (cases hp; done) | (simp at hp; subst hp; simp))))
  · have dcA0 : (x.f0.f0 == a.f0.f0) = false := by simpa using hA0
    repeat (first | (with_reducible refine AW.seq ?_) | (with_reducible refine AW.block ?_) | (with_reducible refine AW.skip ?_) | (with_reducible refine AW.ret ?_) | (with_reducible refine AW.exit ?_) | (with_reducible refine AW.reg hT ?_) | ((with_reducible refine AW.cond_true ?_ ?_); · rfl) | ((with_reducible refine AW.cond_false ?_ ?_); · rfl) | simp (maxSteps := 3000000) (maxDischargeDepth := 12) only [push_cast,appendX,reduceIte,reduceCtorEq,Nat.reduceSub,Nat.reduceAdd,Nat.reduceMul,Nat.reduceLT,Nat.reduceLeDiff,Nat.reduceEqDiff,Nat.reduceBEq,Int.reduceToNat,Int.reduceLT,Int.reduceLE,Int.reduceEq,Int.reduceNeg,Try.results33,gtq,Heap.lt gtq,dcA0])
    refine ⟨by simp [atA, *], ?_⟩
    repeat (first | exact Ext.refl _ _ | assumption | refine Ext.push ?_ _ | ((refine Ext.set ?_ ?_ _); rotate_left; · (simp (maxSteps := 3000000) (maxDischargeDepth := 12) only [push_cast, appendX, Nat.reduceAdd, Nat.reduceEqDiff, Nat.reduceLT, Nat.reduceLeDiff, reduceIte, reduceCtorEq, gtq, Heap.lt gtq, dcA0])) | ((refine Ext.then1 (by assumption) ?_ ?_); rotate_left; · (intro p hp _; first | assumption | exact List.mem_cons_of_mem _ hp | (cases hp; done) | (simp at hp; subst hp; simp))))
def ixI (l : List Ad) (d : DV) (q : Nat) (a : Ad) (σ0 : Heap) (m : Nat) (ts : List DV) (σ : Heap) : Prop := ∃ i, m = l.length + 1 - i ∧ i ≤ l.length ∧ (∀ y ∈ l.take i, ¬ atA a.f0.f0 a.f0.f1 y) ∧ Ext [] σ0 σ ∧ TellsL ts (d :: .fn (.func 33) [] [.ptr q 0 0 1] :: .any :: .any :: .any :: .any :: .any :: .sc (.int .i64 l.length) :: .sc (.int .i64 i) :: .any :: .any :: .any :: .any :: .any :: .any :: .any :: .any :: .any :: .any :: [])
theorem index_ok (σ : Heap) (l : List Ad) (d : DV) (hh : Hold σ d 40 (l.map eA)) {q : Nat} (a : Ad) (hq : σ.get q = some ⟨[eA a], 40, true⟩) (hl : l.length ≤ 1000000) :
    ACalls Try.prog 32 [d, .fn (.func 33) [] [.ptr q 0 0 1]] σ (fun y σ' => y = .sc (.int .i64 (pl l a.f0.f0 a.f0.f1)) ∧ Ext [] σ σ') := by
  have dnl := lenH (ty := 47) hh rfl
  have dncl := hh.cells
  have dnlf := hh.leaf
  refine ACalls.code hT Try.func32 rfl ?_
  simp only [Try.ntmps32, List.length_cons, List.length_nil, Nat.reduceSub, Nat.reduceAdd, List.replicate, List.cons_append, List.nil_append]
  repeat (first | (with_reducible refine AW.seq ?_) | (with_reducible refine AW.block ?_) | (with_reducible refine AW.skip ?_) | (with_reducible refine AW.ret ?_) | (with_reducible refine AW.exit ?_) | (with_reducible refine AW.reg hT ?_) | ((with_reducible refine AW.cond_true ?_ ?_); · rfl) | ((with_reducible refine AW.cond_false ?_ ?_); · rfl) | simp (maxSteps := 3000000) (maxDischargeDepth := 12) only [push_cast,appendX,reduceIte,reduceCtorEq,Nat.reduceSub,Nat.reduceAdd,Nat.reduceMul,Nat.reduceLT,Nat.reduceLeDiff,Nat.reduceEqDiff,Nat.reduceBEq,Int.reduceToNat,Int.reduceLT,Int.reduceLE,Int.reduceEq,Int.reduceNeg,Try.results32,↓dnl,↓dncl,↓dnlf])
  refine AW.loop (ixI l d q a σ) (m := l.length + 1) ⟨0, rfl, Nat.zero_le _, by simp, Ext.refl _ _, by (simp only [push_cast, TellsL, tells_any, tells_refl])⟩ ?_
  rintro m ts σ3 ⟨i, rfl, hil, hno, xt3, hts⟩
  refine AW.told hts ?_
  clear hts
  by_cases hi : i < l.length
  · have dci : decide ((i : Int) < (l.length : Int)) = true := by simp; omega
    have dci2 : ((i : Int) < (l.length : Int)) = True := by simp; omega
    have dci0 : ((0 : Int) ≤ (i : Int)) = True := by simp
    have dcml : (l.map eA).length = l.length := by simp
    obtain ⟨x, hx⟩ : ∃ x, x = l[i] := ⟨_, rfl⟩
    have dcw : IntKind.i64.wrap ((i : Int) + 1) = (i : Int) + 1 := wrap_i64 (by omega) (by omega)
    have hh3 := hh.frame xt3 (by simp)
    have hq3 := xt3.get hq (by simp)
    obtain ⟨t, full, rfl, gtt, hel⟩ := hh3.at_ (i := i) (by simpa using hi)
    have dcel : full[i]? = some (eA x) := by rw [hel, List.getElem_map, hx]
    rw [eA_eq] at dcel
    repeat (first | (with_reducible refine AW.seq ?_) | (with_reducible refine AW.block ?_) | (with_reducible refine AW.skip ?_) | (with_reducible refine AW.ret ?_) | (with_reducible refine AW.exit ?_) | (with_reducible refine AW.reg hT ?_) | ((with_reducible refine AW.cond_true ?_ ?_); · rfl) | ((with_reducible refine AW.cond_false ?_ ?_); · rfl) | simp (maxSteps := 3000000) (maxDischargeDepth := 12) only [push_cast,appendX,reduceIte,reduceCtorEq,Nat.reduceSub,Nat.reduceAdd,Nat.reduceMul,Nat.reduceLT,Nat.reduceLeDiff,Nat.reduceEqDiff,Nat.reduceBEq,Int.reduceToNat,Int.reduceLT,Int.reduceLE,Int.reduceEq,Int.reduceNeg,Try.results32,↓dnl,↓dncl,↓dnlf,xt3.2,xt3.ltT,xt3.leT,dci,dci2,dci0,dcml,dcw,gtt,Heap.lt gtt,dcel])
    refine AOpsL.call (first := []) (cap := [.ptr q 0 0 1]) hT rfl rfl rfl fn33 rfl ((clo_ok _ x a hq3).mono ?_)
    rintro y s' ⟨rfl, xt4⟩
    by_cases h1 : atA a.f0.f0 a.f0.f1 x
    · have dc1 : decide (atA a.f0.f0 a.f0.f1 x) = true := by simpa using h1
      rw [dc1]
      repeat (first | (with_reducible refine AW.seq ?_) | (with_reducible refine AW.block ?_) | (with_reducible refine AW.skip ?_) | (with_reducible refine AW.ret ?_) | (with_reducible refine AW.exit ?_) | (with_reducible refine AW.reg hT ?_) | ((with_reducible refine AW.cond_true ?_ ?_); · rfl) | ((with_reducible refine AW.cond_false ?_ ?_); · rfl) | simp (maxSteps := 3000000) (maxDischargeDepth := 12) only [push_cast,appendX,reduceIte,reduceCtorEq,Nat.reduceSub,Nat.reduceAdd,Nat.reduceMul,Nat.reduceLT,Nat.reduceLeDiff,Nat.reduceEqDiff,Nat.reduceBEq,Int.reduceToNat,Int.reduceLT,Int.reduceLE,Int.reduceEq,Int.reduceNeg,Try.results32,↓dnl,↓dncl,↓dnlf,xt3.2,xt3.ltT,xt3.leT,dci,dci2,dci0,dcml,dcw,gtt,Heap.lt gtt,dcel,xt4.2,xt4.ltT,xt4.leT,dc1])
      exact ⟨by rw [pl_at l _ _ i hi hno (by rw [← hx]; exact h1)], by repeat (first | exact Ext.refl _ _ | assumption | refine Ext.push ?_ _ | ((refine Ext.set ?_ ?_ _); rotate_left; · (simp (maxSteps := 3000000) (maxDischargeDepth := 12) only [push_cast, appendX, Nat.reduceAdd, Nat.reduceEqDiff, Nat.reduceLT, Nat.reduceLeDiff, reduceIte, reduceCtorEq, ↓dnl, ↓dncl, ↓dnlf, xt3.2, xt3.ltT, xt3.leT, dci, dci2, dci0, dcml, dcw, gtt, Heap.lt gtt, dcel, xt4.2, xt4.ltT, xt4.leT, dc1])) | ((refine Ext.then1 (by assumption) ?_ ?_); rotate_left; · (intro p hp _; first | assumption | exact List.mem_cons_of_mem _ hp | (cases hp; done) | (simp at hp; subst hp; simp))))⟩
    · have dc1 : decide (atA a.f0.f0 a.f0.f1 x) = false := by simpa using h1
      have hno' := no_next l _ _ i hi hno (by rw [← hx]; exact h1)
      rw [dc1]
      repeat (first | (with_reducible refine AW.seq ?_) | (with_reducible refine AW.block ?_) | (with_reducible refine AW.skip ?_) | (with_reducible refine AW.ret ?_) | (with_reducible refine AW.exit ?_) | (with_reducible refine AW.reg hT ?_) | ((with_reducible refine AW.cond_true ?_ ?_); · rfl) | ((with_reducible refine AW.cond_false ?_ ?_); · rfl) | simp (maxSteps := 3000000) (maxDischargeDepth := 12) only [push_cast,appendX,reduceIte,reduceCtorEq,Nat.reduceSub,Nat.reduceAdd,Nat.reduceMul,Nat.reduceLT,Nat.reduceLeDiff,Nat.reduceEqDiff,Nat.reduceBEq,Int.reduceToNat,Int.reduceLT,Int.reduceLE,Int.reduceEq,Int.reduceNeg,Try.results32,↓dnl,↓dncl,↓dnlf,xt3.2,xt3.ltT,xt3.leT,dci,dci2,dci0,dcml,dcw,gtt,Heap.lt gtt,dcel,xt4.2,xt4.ltT,xt4.leT,dc1])
      exact ⟨l.length + 1 - (i + 1), by omega, i + 1, rfl, hi, hno', by repeat (first | exact Ext.refl _ _ | assumption | refine Ext.push ?_ _ | ((refine Ext.set ?_ ?_ _); rotate_left; · (simp (maxSteps := 3000000) (maxDischargeDepth := 12) only [push_cast, appendX, Nat.reduceAdd, Nat.reduceEqDiff, Nat.reduceLT, Nat.reduceLeDiff, reduceIte, reduceCtorEq, ↓dnl, ↓dncl, ↓dnlf, xt3.2, xt3.ltT, xt3.leT, dci, dci2, dci0, dcml, dcw, gtt, Heap.lt gtt, dcel, xt4.2, xt4.ltT, xt4.leT, dc1])) | ((refine Ext.then1 (by assumption) ?_ ?_); rotate_left; · (intro p hp _; first | assumption | exact List.mem_cons_of_mem _ hp | (cases hp; done) | (simp at hp; subst hp; simp)))), by (simp only [push_cast, TellsL, tells_any, tells_refl])⟩
  · have dci : decide ((i : Int) < (l.length : Int)) = false := by simp; omega
    have he : i = l.length := by omega
    subst he
    rw [List.take_length] at hno
    repeat (first | (with_reducible refine AW.seq ?_) | (with_reducible refine AW.block ?_) | (with_reducible refine AW.skip ?_) | (with_reducible refine AW.ret ?_) | (with_reducible refine AW.exit ?_) | (with_reducible refine AW.reg hT ?_) | ((with_reducible refine AW.cond_true ?_ ?_); · rfl) | ((with_reducible refine AW.cond_false ?_ ?_); · rfl) | simp (maxSteps := 3000000) (maxDischargeDepth := 12) only [push_cast,appendX,reduceIte,reduceCtorEq,Nat.reduceSub,Nat.reduceAdd,Nat.reduceMul,Nat.reduceLT,Nat.reduceLeDiff,Nat.reduceEqDiff,Nat.reduceBEq,Int.reduceToNat,Int.reduceLT,Int.reduceLE,Int.reduceEq,Int.reduceNeg,Try.results32,↓dnl,↓dncl,↓dnlf,xt3.2,xt3.ltT,xt3.leT,dci])
    exact ⟨by rw [pl_none l _ _ hno], xt3⟩
end Go.Proofs.Ytkcccomdamdocaa.Cm
