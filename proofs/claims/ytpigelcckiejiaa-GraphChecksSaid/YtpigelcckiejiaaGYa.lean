/- Sorting by where links lead: the comparison and the sort by insertion. slices.SortStableFunc at fewer than twenty, and graph.Outs where so few links lead from a node. graph.Outs where fewer than twenty links lead from a node. -/
import Derived.Test.YtpigelcckiejiaaGraph0
import Derived.Test.YtpigelcckiejiaaCmLib3
namespace Go.Proofs.Ytpigelcckiejiaa.Cm
open Go.RowKit
set_option linter.unusedVariables false
set_option linter.unusedSimpArgs false
set_option maxRecDepth 20000
set_option maxHeartbeats 8000000
def cmpI (x y : Int) : Int := if x < y then -1 else if y < x then 1 else 0
theorem cmpI_neg (x y : Int) : cmpI x y < 0 ↔ x < y := by
  unfold cmpI
  split
  · simp [*]
  · split <;> simp <;> omega
theorem nan_ok (σ : Heap) (x : Int) : ACalls Try.prog 37 [.sc (.int .i64 x)] σ (fun y σ' => y = .sc (.bool false) ∧ σ' = σ) := by
  have dcx : (x != x) = false := by simp
  refine ACalls.code hT Try.func37 rfl ?_
  simp only [Try.ntmps37, List.length_cons, List.length_nil, Nat.reduceSub, Nat.reduceAdd, List.replicate, List.cons_append, List.nil_append]
  repeat (first | (with_reducible refine AW.seq ?_) | (with_reducible refine AW.block ?_) | (with_reducible refine AW.skip ?_) | (with_reducible refine AW.ret ?_) | (with_reducible refine AW.exit ?_) | (with_reducible refine AW.reg hT ?_) | ((with_reducible refine AW.cond_true ?_ ?_); · rfl) | ((with_reducible refine AW.cond_false ?_ ?_); · rfl) | simp (maxSteps := 3000000) (maxDischargeDepth := 12) only [push_cast,appendX,reduceIte,reduceCtorEq,Nat.reduceSub,Nat.reduceAdd,Nat.reduceMul,Nat.reduceLT,Nat.reduceLeDiff,Nat.reduceEqDiff,Nat.reduceBEq,Int.reduceToNat,Int.reduceLT,Int.reduceLE,Int.reduceEq,Int.reduceNeg,Try.results37,dcx])
theorem compare_ok (σ : Heap) (x y : Int) : ACalls Try.prog 29 [.sc (.int .i64 x), .sc (.int .i64 y)] σ (fun r σ' => r = .sc (.int .i64 (cmpI x y)) ∧ σ' = σ) := by
  refine ACalls.code hT Try.func29 rfl ?_
  simp only [Try.ntmps29, List.length_cons, List.length_nil, Nat.reduceSub, Nat.reduceAdd, List.replicate, List.cons_append, List.nil_append]
  repeat (first | (with_reducible refine AW.seq ?_) | (with_reducible refine AW.block ?_) | (with_reducible refine AW.skip ?_) | (with_reducible refine AW.ret ?_) | (with_reducible refine AW.exit ?_) | (with_reducible refine AW.reg hT ?_) | ((with_reducible refine AW.cond_true ?_ ?_); · rfl) | ((with_reducible refine AW.cond_false ?_ ?_); · rfl) | simp (maxSteps := 3000000) (maxDischargeDepth := 12) only [push_cast,appendX,reduceIte,reduceCtorEq,Nat.reduceSub,Nat.reduceAdd,Nat.reduceMul,Nat.reduceLT,Nat.reduceLeDiff,Nat.reduceEqDiff,Nat.reduceBEq,Int.reduceToNat,Int.reduceLT,Int.reduceLE,Int.reduceEq,Int.reduceNeg,Try.results29])
  refine AOpsL.call (first := []) (cap := []) hT rfl rfl rfl fn37 rfl (ACalls.mono (nan_ok _ x) ?_)
  rintro r s ⟨rfl, rfl⟩
  repeat (first | (with_reducible refine AW.seq ?_) | (with_reducible refine AW.block ?_) | (with_reducible refine AW.skip ?_) | (with_reducible refine AW.ret ?_) | (with_reducible refine AW.exit ?_) | (with_reducible refine AW.reg hT ?_) | ((with_reducible refine AW.cond_true ?_ ?_); · rfl) | ((with_reducible refine AW.cond_false ?_ ?_); · rfl) | simp (maxSteps := 3000000) (maxDischargeDepth := 12) only [push_cast,appendX,reduceIte,reduceCtorEq,Nat.reduceSub,Nat.reduceAdd,Nat.reduceMul,Nat.reduceLT,Nat.reduceLeDiff,Nat.reduceEqDiff,Nat.reduceBEq,Int.reduceToNat,Int.reduceLT,Int.reduceLE,Int.reduceEq,Int.reduceNeg,Try.results29])
  refine AOpsL.call (first := []) (cap := []) hT rfl rfl rfl fn37 rfl (ACalls.mono (nan_ok _ y) ?_)
  rintro r s ⟨rfl, rfl⟩
  by_cases h : x < y
  · have dc1 : decide (x < y) = true := decide_eq_true h
    repeat (first | (with_reducible refine AW.seq ?_) | (with_reducible refine AW.block ?_) | (with_reducible refine AW.skip ?_) | (with_reducible refine AW.ret ?_) | (with_reducible refine AW.exit ?_) | (with_reducible refine AW.reg hT ?_) | ((with_reducible refine AW.cond_true ?_ ?_); · rfl) | ((with_reducible refine AW.cond_false ?_ ?_); · rfl) | simp (maxSteps := 3000000) (maxDischargeDepth := 12) only [push_cast,appendX,reduceIte,reduceCtorEq,Nat.reduceSub,Nat.reduceAdd,Nat.reduceMul,Nat.reduceLT,Nat.reduceLeDiff,Nat.reduceEqDiff,Nat.reduceBEq,Int.reduceToNat,Int.reduceLT,Int.reduceLE,Int.reduceEq,Int.reduceNeg,Try.results29,dc1])
    simp [cmpI, h]
  · have dc1 : decide (x < y) = false := decide_eq_false h
    by_cases h2 : y < x
    · have dc2 : decide (y < x) = true := decide_eq_true h2
      repeat (first | (with_reducible refine AW.seq ?_) | (with_reducible refine AW.block ?_) | (with_reducible refine AW.skip ?_) | (with_reducible refine AW.ret ?_) | (with_reducible refine AW.exit ?_) | (with_reducible refine AW.reg hT ?_) | ((with_reducible refine AW.cond_true ?_ ?_); · rfl) | ((with_reducible refine AW.cond_false ?_ ?_); · rfl) | simp (maxSteps := 3000000) (maxDischargeDepth := 12) only [push_cast,appendX,reduceIte,reduceCtorEq,Nat.reduceSub,Nat.reduceAdd,Nat.reduceMul,Nat.reduceLT,Nat.reduceLeDiff,Nat.reduceEqDiff,Nat.reduceBEq,Int.reduceToNat,Int.reduceLT,Int.reduceLE,Int.reduceEq,Int.reduceNeg,Try.results29,dc1,dc2])
      simp [cmpI, h, h2]
    · have dc2 : decide (y < x) = false := decide_eq_false h2
      repeat (first | (with_reducible refine AW.seq ?_) | (with_reducible refine AW.block ?_) | (with_reducible refine AW.skip ?_) | (with_reducible refine AW.ret ?_) | (with_reducible refine AW.exit ?_) | (with_reducible refine AW.reg hT ?_) | ((with_reducible refine AW.cond_true ?_ ?_); · rfl) | ((with_reducible refine AW.cond_false ?_ ?_); · rfl) | simp (maxSteps := 3000000) (maxDischargeDepth := 12) only [push_cast,appendX,reduceIte,reduceCtorEq,Nat.reduceSub,Nat.reduceAdd,Nat.reduceMul,Nat.reduceLT,Nat.reduceLeDiff,Nat.reduceEqDiff,Nat.reduceBEq,Int.reduceToNat,Int.reduceLT,Int.reduceLE,Int.reduceEq,Int.reduceNeg,Try.results29,dc1,dc2])
      simp [cmpI, h, h2]
/-- The box of a list of links. -/
def LB (l : List Lk) : AObj := ⟨[[.imm (l.map eK)]], 22, true⟩
def key (l : List Lk) (k : Nat) : Int := match l[k]? with | some x => x.f1 | none => 0
def eI (n : Nat) : List DV := [.sc (.int .i64 n)]
theorem outs1_ok (σ : Heap) (l : List Lk) {q : Nat} (gtq : σ.get q = some (LB l)) (a b : Nat) (ha : a < l.length) (hb : b < l.length) : ACalls Try.prog 28 [.sc (.int .i64 a), .sc (.int .i64 b), .ptr q 0 0 1] σ (fun r σ' => r = .sc (.int .i64 (cmpI (key l a) (key l b))) ∧ σ' = σ) := by
  have dcml : (l.map eK).length = l.length := by simp
  have dca : ((a : Int) < (l.length : Int)) = True := by simp; omega
  have dca0 : ((0 : Int) ≤ (a : Int)) = True := by simp
  have dcb : ((b : Int) < (l.length : Int)) = True := by simp; omega
  have dcb0 : ((0 : Int) ≤ (b : Int)) = True := by simp
  have dcea : (l.map eK)[a]? = some (eK l[a]) := by rw [List.getElem?_map, List.getElem?_eq_getElem ha]; rfl
  have dceb : (l.map eK)[b]? = some (eK l[b]) := by rw [List.getElem?_map, List.getElem?_eq_getElem hb]; rfl
  have hka : key l a = l[a].f1 := by simp [key, List.getElem?_eq_getElem ha]
  have hkb : key l b = l[b].f1 := by simp [key, List.getElem?_eq_getElem hb]
  rw [eK_eq] at dcea dceb
  unfold LB at gtq
  refine ACalls.code hT Try.func28 rfl ?_
  simp only [Try.ntmps28, List.length_cons, List.length_nil, Nat.reduceSub, Nat.reduceAdd, List.replicate, List.cons_append, List.nil_append]
  repeat (first | (with_reducible refine AW.seq ?_) | (with_reducible refine AW.block ?_) | (with_reducible refine AW.skip ?_) | (with_reducible refine AW.ret ?_) | (with_reducible refine AW.exit ?_) | (with_reducible refine AW.reg hT ?_) | (with_reducible refine AW.drawn (id := 1) hT [0,1,2,3,4,5,6,7,8,9,10,11] [[],[],[0,1],[0,1,2],[0,1,2,3],[],[],[5,6],[5,6,7],[5,6,7,8],[0,1,2,3,4,5,6,7,8,9],[0,1,2,3,4,5,6,7,8,9,10]] mix (by kernel_rfl) ?_) | ((with_reducible show DLeft _ _ _ _ (_ :: _) _ _ _ _); (with_reducible apply DLeft.step hT); (case hoi => ((simp only [List.getElem?_toArray,List.getElem?_cons_zero,List.getElem?_cons_succ]); with_reducible rfl)); (case hg => rfl); (case hk => rfl); (case hr => ((try simp (maxSteps := 3000000) (maxDischargeDepth := 12) only [push_cast,appendX,reduceIte,reduceCtorEq,Nat.reduceSub,Nat.reduceAdd,Nat.reduceMul,Nat.reduceLT,Nat.reduceLeDiff,Nat.reduceEqDiff,Nat.reduceBEq,Int.reduceToNat,Int.reduceLT,Int.reduceLE,Int.reduceEq,Int.reduceNeg,Try.results28,gtq,Heap.lt gtq,dcml,dca,dca0,dcb,dcb0,dcea,dceb]); with_reducible rfl))) | ((with_reducible refine AW.cond_true ?_ ?_); · rfl) | ((with_reducible refine AW.cond_false ?_ ?_); · rfl) | simp (maxSteps := 3000000) (maxDischargeDepth := 12) only [push_cast,appendX,reduceIte,reduceCtorEq,Nat.reduceSub,Nat.reduceAdd,Nat.reduceMul,Nat.reduceLT,Nat.reduceLeDiff,Nat.reduceEqDiff,Nat.reduceBEq,Int.reduceToNat,Int.reduceLT,Int.reduceLE,Int.reduceEq,Int.reduceNeg,Try.results28,gtq,Heap.lt gtq,dcml,dca,dca0,dcb,dcb0,dcea,dceb])
  ((apply DLeft.call (f := 29) (first := []) (cap := [])); (case hoi => ((simp only [List.getElem?_toArray, List.getElem?_cons_zero, List.getElem?_cons_succ]); with_reducible rfl)); (case hg => rfl); (case ho => rfl); (case hc => rfl); (case hf => exact fn29); (case has => rfl)); refine ACalls.mono (compare_ok _ l[a].f1 l[b].f1) ?_
  rintro r s ⟨rfl, rfl⟩
  repeat (first | (with_reducible refine AW.seq ?_) | (with_reducible refine AW.block ?_) | (with_reducible refine AW.skip ?_) | (with_reducible refine AW.ret ?_) | (with_reducible refine AW.exit ?_) | (with_reducible refine AW.reg hT ?_) | (with_reducible refine AW.drawn (id := 1) hT [0,1,2,3,4,5,6,7,8,9,10,11] [[],[],[0,1],[0,1,2],[0,1,2,3],[],[],[5,6],[5,6,7],[5,6,7,8],[0,1,2,3,4,5,6,7,8,9],[0,1,2,3,4,5,6,7,8,9,10]] mix (by kernel_rfl) ?_) | ((with_reducible show DLeft _ _ _ _ (_ :: _) _ _ _ _); (with_reducible apply DLeft.step hT); (case hoi => ((simp only [List.getElem?_toArray,List.getElem?_cons_zero,List.getElem?_cons_succ]); with_reducible rfl)); (case hg => rfl); (case hk => rfl); (case hr => ((try simp (maxSteps := 3000000) (maxDischargeDepth := 12) only [push_cast,appendX,reduceIte,reduceCtorEq,Nat.reduceSub,Nat.reduceAdd,Nat.reduceMul,Nat.reduceLT,Nat.reduceLeDiff,Nat.reduceEqDiff,Nat.reduceBEq,Int.reduceToNat,Int.reduceLT,Int.reduceLE,Int.reduceEq,Int.reduceNeg,Try.results28,gtq,Heap.lt gtq,dcml,dca,dca0,dcb,dcb0,dcea,dceb]); with_reducible rfl))) | ((with_reducible refine AW.cond_true ?_ ?_); · rfl) | ((with_reducible refine AW.cond_false ?_ ?_); · rfl) | simp (maxSteps := 3000000) (maxDischargeDepth := 12) only [push_cast,appendX,reduceIte,reduceCtorEq,Nat.reduceSub,Nat.reduceAdd,Nat.reduceMul,Nat.reduceLT,Nat.reduceLeDiff,Nat.reduceEqDiff,Nat.reduceBEq,Int.reduceToNat,Int.reduceLT,Int.reduceLE,Int.reduceEq,Int.reduceNeg,Try.results28,gtq,Heap.lt gtq,dcml,dca,dca0,dcb,dcb0,dcea,dceb])
  rw [hka, hkb]
def Rk (l : List Lk) (x y : Nat) : Prop := key l x < key l y ∨ (key l x = key l y ∧ x < y)
theorem Rk.insert {l : List Lk} {P1 P2 : List Nat} {x : Nat} (hP : (P1 ++ P2).Pairwise (Rk l)) (hlt : ∀ y ∈ P1, y < x) (h2 : ∀ y ∈ P2, key l x < key l y) (h1 : ∀ y, P1.getLast? = some y → key l y ≤ key l x) : (P1 ++ x :: P2).Pairwise (Rk l) := by
  rw [List.pairwise_append] at hP ⊢
  obtain ⟨p1, p2, p3⟩ := hP
  have h3 : ∀ y ∈ P1, Rk l y x := by
    intro y hy
    have hk : key l y ≤ key l x := by
      rcases List.eq_nil_or_concat P1 with rfl | ⟨P, z, rfl⟩
      · cases hy
      · have hz := h1 z (by simp)
        rw [List.concat_eq_append] at hy p1
        rcases List.mem_append.1 hy with hy | hy
        · rw [List.pairwise_append] at p1
          have := p1.2.2 y hy z (by simp)
          rcases this with h | ⟨h, _⟩ <;> omega
        · rw [List.mem_singleton.1 hy]; exact hz
    rcases Int.lt_or_eq_of_le hk with h | h
    · exact .inl h
    · exact .inr ⟨h, hlt y hy⟩
  refine ⟨p1, List.pairwise_cons.2 ⟨fun y hy => .inl (h2 y hy), p2⟩, fun a ha b hb => ?_⟩
  rcases List.mem_cons.1 hb with rfl | hb
  · exact h3 a ha
  · exact p3 a ha b hb
theorem mid_get (L R : List Nat) (C : List (List DV)) (x i : Nat) (h : i = L.length) : ((L ++ x :: R).map eI ++ C)[i]? = some [.sc (.int .i64 x)] := by
  subst h; simp [eI]
theorem mid_swap (L R : List Nat) (C : List (List DV)) (x y i j : Nat) (hi : i = L.length) (hj : j = L.length + 1) : (((L ++ y :: x :: R).map eI ++ C).set j (eI y)).set i (eI x) = (L ++ x :: y :: R).map eI ++ C := by
  subst hi; subst hj
  induction L with
  | nil => simp
  | cons z L ih => simp
def isI (l : List Lk) (A S : List Nat) (C : List (List DV)) (t q n m0 : Nat) (σ0 : Heap) (m : Nat) (ts : List DV) (σ : Heap) : Prop := ∃ (k : Nat) (P : List Nat), m = S.length + 2 - k ∧ k ≤ S.length + 1 ∧ 1 ≤ k ∧ P.Perm (S.take k) ∧ P.Pairwise (Rk l) ∧ σ.get t = some ⟨(A ++ P ++ S.drop k).map eI ++ C, 3, true⟩ ∧ Ext [t] σ0 σ ∧ TellsL ts (.sl t 0 n m0 :: .sc (.int .i64 A.length) :: .sc (.int .i64 (A.length + S.length : Nat)) :: .fn (.func 28) [] [.ptr q 0 0 1] :: .any :: .any :: .any :: .any :: .sc (.int .i64 (A.length + k : Nat)) :: .any :: .any :: .any :: .any :: .any :: .any :: .any :: .any :: .any :: .any :: .any :: .any :: .any :: .any :: .any :: .any :: .any :: .any :: .any :: .any :: .any :: .any :: .any :: .any :: .any :: .any :: .any :: .any :: .any :: .any :: .any :: .any :: .any :: .any :: .any :: .any :: .any :: .any :: .any :: .any :: .any :: .any :: .any :: .any :: [])
def isJ (l : List Lk) (A S P : List Nat) (C : List (List DV)) (k x : Nat) (t q n m0 : Nat) (σ0 : Heap) (m : Nat) (ts : List DV) (σ : Heap) : Prop := ∃ (P1 P2 : List Nat) (z : Int), m = P1.length ∧ P = P1 ++ P2 ∧ z = (A.length + P1.length : Nat) ∧ (∀ y ∈ P2, key l x < key l y) ∧ σ.get t = some ⟨(A ++ P1 ++ x :: P2 ++ S.drop (k + 1)).map eI ++ C, 3, true⟩ ∧ Ext [t] σ0 σ ∧ TellsL ts (.sl t 0 n m0 :: .sc (.int .i64 A.length) :: .sc (.int .i64 (A.length + S.length : Nat)) :: .fn (.func 28) [] [.ptr q 0 0 1] :: .any :: .any :: .any :: .any :: .sc (.int .i64 (A.length + k : Nat)) :: .sc (.int .i64 z) :: .any :: .any :: .any :: .any :: .any :: .any :: .any :: .any :: .any :: .any :: .any :: .any :: .any :: .any :: .any :: .any :: .any :: .any :: .any :: .any :: .any :: .any :: .any :: .any :: .any :: .any :: .any :: .any :: .any :: .any :: .any :: .any :: .any :: .any :: .any :: .any :: .any :: .any :: .any :: .any :: .any :: .any :: .any :: [])
theorem insC_ok (σ : Heap) (l : List Lk) {t q : Nat} (A S : List Nat) (C : List (List DV)) (a b n m0 : Nat) (ha : a = A.length) (hb : b = A.length + S.length) (hm : m0 = A.length + S.length + C.length) (gtt : σ.get t = some ⟨(A ++ S).map eI ++ C, 3, true⟩) (gtq : σ.get q = some (LB l)) (hn : b ≤ n) (hnm : n ≤ m0) (hS : S.Pairwise (· < ·)) (hSl : ∀ x ∈ S, x < l.length) (hbig : n ≤ 1000000) :
    ACalls Try.prog 40 [.sl t 0 n m0, .sc (.int .i64 a), .sc (.int .i64 b), .fn (.func 28) [] [.ptr q 0 0 1]] σ (fun y σ' => ∃ S', S'.Perm S ∧ S'.Pairwise (Rk l) ∧ σ'.get t = some ⟨(A ++ S').map eI ++ C, 3, true⟩ ∧ Ext [t] σ σ') := by
  subst ha; subst hb
  have hqt : q ≠ t := by rintro rfl; rw [gtt] at gtq; simp [LB] at gtq
  refine ACalls.code hT Try.func40 rfl ?_
  simp only [Try.ntmps40, List.length_cons, List.length_nil, Nat.reduceSub, Nat.reduceAdd, List.replicate, List.cons_append, List.nil_append]
  have dcw0 : IntKind.i64.wrap ((A.length : Int) + 1) = (A.length : Int) + 1 := wrap_i64 (by omega) (by omega)
  have hc1 : ((A.length + 1 : Nat) : Int) = (A.length : Int) + 1 := by omega
  repeat (first | (with_reducible refine AW.seq ?_) | (with_reducible refine AW.block ?_) | (with_reducible refine AW.skip ?_) | (with_reducible refine AW.ret ?_) | (with_reducible refine AW.exit ?_) | (with_reducible refine AW.reg hT ?_) | (with_reducible refine AW.drawn (id := 4) hT [0,1,2,3,4,5,6,7,8,9,10,11,12,13,14,15,16] [[],[],[0,1],[0,1,2],[0,1,2,3],[0,1,2,3],[0,1,2,3],[0,1,2,3,5,6],[0,1,2,3,5,6,7],[0,1,2,3],[0,1,2,3],[0,1,2,3,10],[0,1,2,3,9,10,11],[0,1,2,3,9,10,11,12],[0,1,2,3,4,5,6,7,8,9,10,11,12,13],[0,1,2,3,4,5,6,7,8,9,10,11,12,13,14],[0,1,2,3,4,5,6,7,8,9,10,11,12,13,14,15]] mix (by kernel_rfl) ?_) | (with_reducible refine AW.drawn (id := 6) hT [0,1,2,3,4,5,6,7,8,9,10,11,12,13,14,15,16,17] [[],[],[],[],[3],[],[],[6],[5,6,7],[5,6,7,8],[],[],[10,11],[10,11,12],[0,1,5,6,7,8,9,10,11,12,13],[0,1,5,6,7,8,9,10,11,12,13,14],[0,1,2,3,4,5,6,7,8,9,10,11,12,13,14,15],[0,1,2,3,4,5,6,7,8,9,10,11,12,13,14,15,16]] mix (by kernel_rfl) ?_) | ((with_reducible show DLeft _ _ _ _ (_ :: _) _ _ _ _); (with_reducible apply DLeft.step hT); (case hoi => ((simp only [List.getElem?_toArray,List.getElem?_cons_zero,List.getElem?_cons_succ]); with_reducible rfl)); (case hg => rfl); (case hk => rfl); (case hr => ((try simp (maxSteps := 3000000) (maxDischargeDepth := 12) only [push_cast,appendX,reduceIte,reduceCtorEq,Nat.reduceSub,Nat.reduceAdd,Nat.reduceMul,Nat.reduceLT,Nat.reduceLeDiff,Nat.reduceEqDiff,Nat.reduceBEq,Int.reduceToNat,Int.reduceLT,Int.reduceLE,Int.reduceEq,Int.reduceNeg,Try.results40,gtt,Heap.lt gtt,gtq,Heap.lt gtq,dcw0]); with_reducible rfl))) | ((with_reducible refine AW.cond_true ?_ ?_); · rfl) | ((with_reducible refine AW.cond_false ?_ ?_); · rfl) | simp (maxSteps := 3000000) (maxDischargeDepth := 12) only [push_cast,appendX,reduceIte,reduceCtorEq,Nat.reduceSub,Nat.reduceAdd,Nat.reduceMul,Nat.reduceLT,Nat.reduceLeDiff,Nat.reduceEqDiff,Nat.reduceBEq,Int.reduceToNat,Int.reduceLT,Int.reduceLE,Int.reduceEq,Int.reduceNeg,Try.results40,gtt,Heap.lt gtt,gtq,Heap.lt gtq,dcw0])
  refine AW.loop (isI l A S C t q n m0 σ) (m := S.length + 1) ⟨1, S.take 1, by omega, by omega, by omega, List.Perm.refl _, by rcases S with _ | ⟨x, S⟩ <;> simp, by rw [gtt, List.append_assoc A (S.take 1), List.take_append_drop], Ext.refl _ _, by (simp only [push_cast, TellsL, tells_any, tells_refl, hc1])⟩ ?_
  rintro m ts σ3 ⟨k, P, rfl, hk, hk1, hP, hPR, gt3, xt3, hts⟩
  refine AW.told hts ?_
  clear hts
  have gtq3 := xt3.get gtq (by simpa using hqt)
  have hPl : P.length = (S.take k).length := hP.length_eq
  have hzk : ((A.length + k : Nat) : Int) = (A.length : Int) + (k : Int) := by omega
  have hsl : ((A.length + S.length : Nat) : Int) = (A.length : Int) + (S.length : Int) := by omega
  by_cases hkS : k < S.length
  · have dck : decide ((A.length : Int) + (k : Int) < (A.length : Int) + (S.length : Int)) = true := decide_eq_true (by omega)
    have hPk : P.length = k := by rw [hPl, List.length_take]; omega
    obtain ⟨x, hx⟩ : ∃ x, x = S[k] := ⟨_, rfl⟩
    have hdk : S.drop k = x :: S.drop (k + 1) := by rw [hx]; exact List.drop_eq_getElem_cons hkS
    have hxl : x < l.length := hSl x (by rw [hx]; exact List.getElem_mem _)
    have hPlt : ∀ y ∈ P, y < x := by
      intro y hy
      have hy2 := hP.mem_iff.1 hy
      obtain ⟨i, hi, hiy⟩ := List.mem_iff_getElem.1 hy2
      rw [List.length_take] at hi
      rw [List.getElem_take] at hiy
      have := List.pairwise_iff_getElem.1 hS i k (by omega) hkS (by omega)
      rw [← hiy, hx]; exact this
    have hPll : ∀ y ∈ P, y < l.length := fun y hy => hSl y (List.mem_of_mem_take (hP.mem_iff.1 hy))
    have hPx : (P ++ [x]).Perm (S.take (k + 1)) := by
      rw [List.take_add_one, List.getElem?_eq_getElem hkS, Option.toList_some, ← hx]
      exact hP.append_right [x]
    repeat (first | (with_reducible refine AW.seq ?_) | (with_reducible refine AW.block ?_) | (with_reducible refine AW.skip ?_) | (with_reducible refine AW.ret ?_) | (with_reducible refine AW.exit ?_) | (with_reducible refine AW.reg hT ?_) | (with_reducible refine AW.drawn (id := 4) hT [0,1,2,3,4,5,6,7,8,9,10,11,12,13,14,15,16] [[],[],[0,1],[0,1,2],[0,1,2,3],[0,1,2,3],[0,1,2,3],[0,1,2,3,5,6],[0,1,2,3,5,6,7],[0,1,2,3],[0,1,2,3],[0,1,2,3,10],[0,1,2,3,9,10,11],[0,1,2,3,9,10,11,12],[0,1,2,3,4,5,6,7,8,9,10,11,12,13],[0,1,2,3,4,5,6,7,8,9,10,11,12,13,14],[0,1,2,3,4,5,6,7,8,9,10,11,12,13,14,15]] mix (by kernel_rfl) ?_) | (with_reducible refine AW.drawn (id := 6) hT [0,1,2,3,4,5,6,7,8,9,10,11,12,13,14,15,16,17] [[],[],[],[],[3],[],[],[6],[5,6,7],[5,6,7,8],[],[],[10,11],[10,11,12],[0,1,5,6,7,8,9,10,11,12,13],[0,1,5,6,7,8,9,10,11,12,13,14],[0,1,2,3,4,5,6,7,8,9,10,11,12,13,14,15],[0,1,2,3,4,5,6,7,8,9,10,11,12,13,14,15,16]] mix (by kernel_rfl) ?_) | ((with_reducible show DLeft _ _ _ _ (_ :: _) _ _ _ _); (with_reducible apply DLeft.step hT); (case hoi => ((simp only [List.getElem?_toArray,List.getElem?_cons_zero,List.getElem?_cons_succ]); with_reducible rfl)); (case hg => rfl); (case hk => rfl); (case hr => ((try simp (maxSteps := 3000000) (maxDischargeDepth := 12) only [push_cast,appendX,reduceIte,reduceCtorEq,Nat.reduceSub,Nat.reduceAdd,Nat.reduceMul,Nat.reduceLT,Nat.reduceLeDiff,Nat.reduceEqDiff,Nat.reduceBEq,Int.reduceToNat,Int.reduceLT,Int.reduceLE,Int.reduceEq,Int.reduceNeg,Try.results40,gtt,Heap.lt gtt,gtq,Heap.lt gtq,dcw0,gt3,Heap.lt gt3,xt3.2,xt3.ltT,xt3.leT,gtq3,Heap.lt gtq3,dck]); with_reducible rfl))) | ((with_reducible refine AW.cond_true ?_ ?_); · rfl) | ((with_reducible refine AW.cond_false ?_ ?_); · rfl) | simp (maxSteps := 3000000) (maxDischargeDepth := 12) only [push_cast,appendX,reduceIte,reduceCtorEq,Nat.reduceSub,Nat.reduceAdd,Nat.reduceMul,Nat.reduceLT,Nat.reduceLeDiff,Nat.reduceEqDiff,Nat.reduceBEq,Int.reduceToNat,Int.reduceLT,Int.reduceLE,Int.reduceEq,Int.reduceNeg,Try.results40,gtt,Heap.lt gtt,gtq,Heap.lt gtq,dcw0,gt3,Heap.lt gt3,xt3.2,xt3.ltT,xt3.leT,gtq3,Heap.lt gtq3,dck])
    refine AW.loop (isJ l A S P C k x t q n m0 σ) (m := P.length) ⟨P, [], (A.length + k : Nat), rfl, by simp, by rw [hPk], by simp, by rw [gt3, hdk]; simp, xt3, by (simp only [push_cast, TellsL, tells_any, tells_refl])⟩ ?_
    have hkSn := hkS
    clear gt3 xt3 gtq3 hdk hx hkS dck
    rintro m ts σ4 ⟨P1, P2, z, rfl, hPP, hz, h2, gt4, xt4, hts⟩
    refine AW.told hts ?_
    clear hts
    have gtq4 := xt4.get gtq (by simpa using hqt)
    have hP1k : P1.length ≤ k := by rw [← hPk, hPP]; simp
    have hkS' : k + 1 ≤ S.length := hkSn
    rcases List.eq_nil_or_concat P1 with rfl | ⟨Q, y, rfl⟩
    · have dcz : decide ((A.length : Int) < z) = false := decide_eq_false (by simp at hz; omega)
      have dcwk : IntKind.i64.wrap ((A.length : Int) + (k : Int) + 1) = (A.length : Int) + (k : Int) + 1 := wrap_i64 (by omega) (by omega)
      have hzk1 : ((A.length + (k + 1) : Nat) : Int) = (A.length : Int) + (k : Int) + 1 := by omega
      repeat (first | (with_reducible refine AW.seq ?_) | (with_reducible refine AW.block ?_) | (with_reducible refine AW.skip ?_) | (with_reducible refine AW.ret ?_) | (with_reducible refine AW.exit ?_) | (with_reducible refine AW.reg hT ?_) | (with_reducible refine AW.drawn (id := 4) hT [0,1,2,3,4,5,6,7,8,9,10,11,12,13,14,15,16] [[],[],[0,1],[0,1,2],[0,1,2,3],[0,1,2,3],[0,1,2,3],[0,1,2,3,5,6],[0,1,2,3,5,6,7],[0,1,2,3],[0,1,2,3],[0,1,2,3,10],[0,1,2,3,9,10,11],[0,1,2,3,9,10,11,12],[0,1,2,3,4,5,6,7,8,9,10,11,12,13],[0,1,2,3,4,5,6,7,8,9,10,11,12,13,14],[0,1,2,3,4,5,6,7,8,9,10,11,12,13,14,15]] mix (by kernel_rfl) ?_) | (with_reducible refine AW.drawn (id := 6) hT [0,1,2,3,4,5,6,7,8,9,10,11,12,13,14,15,16,17] [[],[],[],[],[3],[],[],[6],[5,6,7],[5,6,7,8],[],[],[10,11],[10,11,12],[0,1,5,6,7,8,9,10,11,12,13],[0,1,5,6,7,8,9,10,11,12,13,14],[0,1,2,3,4,5,6,7,8,9,10,11,12,13,14,15],[0,1,2,3,4,5,6,7,8,9,10,11,12,13,14,15,16]] mix (by kernel_rfl) ?_) | ((with_reducible show DLeft _ _ _ _ (_ :: _) _ _ _ _); (with_reducible apply DLeft.step hT); (case hoi => ((simp only [List.getElem?_toArray,List.getElem?_cons_zero,List.getElem?_cons_succ]); with_reducible rfl)); (case hg => rfl); (case hk => rfl); (case hr => ((try simp (maxSteps := 3000000) (maxDischargeDepth := 12) only [push_cast,appendX,reduceIte,reduceCtorEq,Nat.reduceSub,Nat.reduceAdd,Nat.reduceMul,Nat.reduceLT,Nat.reduceLeDiff,Nat.reduceEqDiff,Nat.reduceBEq,Int.reduceToNat,Int.reduceLT,Int.reduceLE,Int.reduceEq,Int.reduceNeg,Try.results40,gtt,Heap.lt gtt,gtq,Heap.lt gtq,dcw0,gt4,Heap.lt gt4,xt4.2,xt4.ltT,xt4.leT,gtq4,Heap.lt gtq4,dcz,dcwk]); with_reducible rfl))) | ((with_reducible refine AW.cond_true ?_ ?_); · rfl) | ((with_reducible refine AW.cond_false ?_ ?_); · rfl) | simp (maxSteps := 3000000) (maxDischargeDepth := 12) only [push_cast,appendX,reduceIte,reduceCtorEq,Nat.reduceSub,Nat.reduceAdd,Nat.reduceMul,Nat.reduceLT,Nat.reduceLeDiff,Nat.reduceEqDiff,Nat.reduceBEq,Int.reduceToNat,Int.reduceLT,Int.reduceLE,Int.reduceEq,Int.reduceNeg,Try.results40,gtt,Heap.lt gtt,gtq,Heap.lt gtq,dcw0,gt4,Heap.lt gt4,xt4.2,xt4.ltT,xt4.leT,gtq4,Heap.lt gtq4,dcz,dcwk])
      simp only [List.nil_append] at hPP gt4
      subst hPP
      refine ⟨S.length + 2 - (k + 1), by omega, k + 1, x :: P, rfl, by omega, by omega, ?_, Rk.insert (P1 := []) (by simpa using hPR) (by simp) h2 (by simp), by rw [gt4]; simp, xt4, by (simp only [push_cast, TellsL, tells_any, tells_refl, hzk1])⟩
      exact (List.perm_append_comm (l₁ := [x]) (l₂ := P)).trans hPx
    · rw [List.concat_eq_append] at hPP hz gt4 hP1k
      have dcz : decide ((A.length : Int) < z) = true := decide_eq_true (by simp at hz; omega)
      have hyl : y < l.length := hPll y (by rw [hPP]; simp)
      have hzl : z = (A.length : Int) + (Q.length : Int) + 1 := by simp at hz; omega
      have hnn : A.length + Q.length + 1 < n := by simp at hP1k; omega
      obtain ⟨jx, hjx⟩ : ∃ jx, jx = A.length + Q.length + 1 := ⟨_, rfl⟩
      obtain ⟨jy, hjy⟩ : ∃ jy, jy = A.length + Q.length := ⟨_, rfl⟩
      have dcz1 : (z < (n : Int)) = True := by simp; omega
      have dcz2 : (0 ≤ z) = True := by simp; omega
      have dcz3 : z.toNat = jx := by omega
      have dcy1 : (z - 1 < (n : Int)) = True := by simp; omega
      have dcy2 : (0 ≤ z - 1) = True := by simp; omega
      have dcy3 : (z - 1).toNat = jy := by omega
      have dcwz : IntKind.i64.wrap (z - 1) = z - 1 := wrap_i64 (by omega) (by omega)
      obtain ⟨full, hfull⟩ : ∃ full, full = (A ++ (Q ++ [y]) ++ x :: P2 ++ S.drop (k + 1)).map eI ++ C := ⟨_, rfl⟩
      have e1 : A ++ (Q ++ [y]) ++ x :: P2 ++ S.drop (k + 1) = (A ++ Q ++ [y]) ++ x :: (P2 ++ S.drop (k + 1)) := by simp
      have e2 : A ++ (Q ++ [y]) ++ x :: P2 ++ S.drop (k + 1) = (A ++ Q) ++ y :: x :: (P2 ++ S.drop (k + 1)) := by simp
      have dcfx : full[jx]? = some [.sc (.int .i64 x)] := by rw [hfull, e1]; exact mid_get _ _ _ _ _ (by simp; omega)
      have dcfy : full[jy]? = some [.sc (.int .i64 y)] := by rw [hfull, e2]; exact mid_get _ _ _ _ _ (by simp; omega)
      have dcfl : full.length = m0 := by
        rw [hfull, hm]; have := congrArg List.length hPP; simp at this ⊢; omega
      rw [← hfull] at gt4
      repeat (first | (with_reducible refine AW.seq ?_) | (with_reducible refine AW.block ?_) | (with_reducible refine AW.skip ?_) | (with_reducible refine AW.ret ?_) | (with_reducible refine AW.exit ?_) | (with_reducible refine AW.reg hT ?_) | (with_reducible refine AW.drawn (id := 4) hT [0,1,2,3,4,5,6,7,8,9,10,11,12,13,14,15,16] [[],[],[0,1],[0,1,2],[0,1,2,3],[0,1,2,3],[0,1,2,3],[0,1,2,3,5,6],[0,1,2,3,5,6,7],[0,1,2,3],[0,1,2,3],[0,1,2,3,10],[0,1,2,3,9,10,11],[0,1,2,3,9,10,11,12],[0,1,2,3,4,5,6,7,8,9,10,11,12,13],[0,1,2,3,4,5,6,7,8,9,10,11,12,13,14],[0,1,2,3,4,5,6,7,8,9,10,11,12,13,14,15]] mix (by kernel_rfl) ?_) | (with_reducible refine AW.drawn (id := 6) hT [0,1,2,3,4,5,6,7,8,9,10,11,12,13,14,15,16,17] [[],[],[],[],[3],[],[],[6],[5,6,7],[5,6,7,8],[],[],[10,11],[10,11,12],[0,1,5,6,7,8,9,10,11,12,13],[0,1,5,6,7,8,9,10,11,12,13,14],[0,1,2,3,4,5,6,7,8,9,10,11,12,13,14,15],[0,1,2,3,4,5,6,7,8,9,10,11,12,13,14,15,16]] mix (by kernel_rfl) ?_) | ((with_reducible show DLeft _ _ _ _ (_ :: _) _ _ _ _); (with_reducible apply DLeft.step hT); (case hoi => ((simp only [List.getElem?_toArray,List.getElem?_cons_zero,List.getElem?_cons_succ]); with_reducible rfl)); (case hg => rfl); (case hk => rfl); (case hr => ((try simp (maxSteps := 3000000) (maxDischargeDepth := 12) only [push_cast,appendX,reduceIte,reduceCtorEq,Nat.reduceSub,Nat.reduceAdd,Nat.reduceMul,Nat.reduceLT,Nat.reduceLeDiff,Nat.reduceEqDiff,Nat.reduceBEq,Int.reduceToNat,Int.reduceLT,Int.reduceLE,Int.reduceEq,Int.reduceNeg,Try.results40,gtt,Heap.lt gtt,gtq,Heap.lt gtq,dcw0,gt4,Heap.lt gt4,xt4.2,xt4.ltT,xt4.leT,gtq4,Heap.lt gtq4,dcz,dcz1,dcz2,dcz3,dcy1,dcy2,dcy3,dcwz,dcfx,dcfy,dcfl]); with_reducible rfl))) | ((with_reducible refine AW.cond_true ?_ ?_); · rfl) | ((with_reducible refine AW.cond_false ?_ ?_); · rfl) | simp (maxSteps := 3000000) (maxDischargeDepth := 12) only [push_cast,appendX,reduceIte,reduceCtorEq,Nat.reduceSub,Nat.reduceAdd,Nat.reduceMul,Nat.reduceLT,Nat.reduceLeDiff,Nat.reduceEqDiff,Nat.reduceBEq,Int.reduceToNat,Int.reduceLT,Int.reduceLE,Int.reduceEq,Int.reduceNeg,Try.results40,gtt,Heap.lt gtt,gtq,Heap.lt gtq,dcw0,gt4,Heap.lt gt4,xt4.2,xt4.ltT,xt4.leT,gtq4,Heap.lt gtq4,dcz,dcz1,dcz2,dcz3,dcy1,dcy2,dcy3,dcwz,dcfx,dcfy,dcfl])
      ((apply DLeft.call (f := 28) (first := []) (cap := [.ptr q 0 0 1])); (case hoi => ((simp only [List.getElem?_toArray, List.getElem?_cons_zero, List.getElem?_cons_succ]); with_reducible rfl)); (case hg => rfl); (case ho => rfl); (case hc => rfl); (case hf => exact fn28); (case has => rfl)); refine ACalls.mono (outs1_ok _ l gtq4 x y hxl hyl) ?_
      rintro r s5 ⟨rfl, rfl⟩
      by_cases hlt : key l x < key l y
      · have dcc : decide (cmpI (key l x) (key l y) < 0) = true := decide_eq_true ((cmpI_neg _ _).2 hlt)
        have dcf2 : (full.set jx [.sc (.int .i64 y)]).length = m0 := by rw [List.length_set]; exact dcfl
        have dcf3 : (full.set jx [.sc (.int .i64 y)])[jy]? = some [.sc (.int .i64 y)] := by rw [List.getElem?_set_ne (by omega)]; exact dcfy
        have hsw := mid_swap (A ++ Q) (P2 ++ S.drop (k + 1)) C x y jy jx (by simp; omega) (by simp; omega)
        rw [← e2, ← hfull] at hsw
        simp only [eI] at hsw
        have hlt4 := Heap.lt gt4
        repeat (first | (with_reducible refine AW.seq ?_) | (with_reducible refine AW.block ?_) | (with_reducible refine AW.skip ?_) | (with_reducible refine AW.ret ?_) | (with_reducible refine AW.exit ?_) | (with_reducible refine AW.reg hT ?_) | (with_reducible refine AW.drawn (id := 4) hT [0,1,2,3,4,5,6,7,8,9,10,11,12,13,14,15,16] [[],[],[0,1],[0,1,2],[0,1,2,3],[0,1,2,3],[0,1,2,3],[0,1,2,3,5,6],[0,1,2,3,5,6,7],[0,1,2,3],[0,1,2,3],[0,1,2,3,10],[0,1,2,3,9,10,11],[0,1,2,3,9,10,11,12],[0,1,2,3,4,5,6,7,8,9,10,11,12,13],[0,1,2,3,4,5,6,7,8,9,10,11,12,13,14],[0,1,2,3,4,5,6,7,8,9,10,11,12,13,14,15]] mix (by kernel_rfl) ?_) | (with_reducible refine AW.drawn (id := 6) hT [0,1,2,3,4,5,6,7,8,9,10,11,12,13,14,15,16,17] [[],[],[],[],[3],[],[],[6],[5,6,7],[5,6,7,8],[],[],[10,11],[10,11,12],[0,1,5,6,7,8,9,10,11,12,13],[0,1,5,6,7,8,9,10,11,12,13,14],[0,1,2,3,4,5,6,7,8,9,10,11,12,13,14,15],[0,1,2,3,4,5,6,7,8,9,10,11,12,13,14,15,16]] mix (by kernel_rfl) ?_) | ((with_reducible show DLeft _ _ _ _ (_ :: _) _ _ _ _); (with_reducible apply DLeft.step hT); (case hoi => ((simp only [List.getElem?_toArray,List.getElem?_cons_zero,List.getElem?_cons_succ]); with_reducible rfl)); (case hg => rfl); (case hk => rfl); (case hr => ((try simp (maxSteps := 3000000) (maxDischargeDepth := 12) only [push_cast,appendX,reduceIte,reduceCtorEq,Nat.reduceSub,Nat.reduceAdd,Nat.reduceMul,Nat.reduceLT,Nat.reduceLeDiff,Nat.reduceEqDiff,Nat.reduceBEq,Int.reduceToNat,Int.reduceLT,Int.reduceLE,Int.reduceEq,Int.reduceNeg,Try.results40,gtt,Heap.lt gtt,gtq,Heap.lt gtq,dcw0,gt4,Heap.lt gt4,xt4.2,xt4.ltT,xt4.leT,gtq4,Heap.lt gtq4,dcz,dcz1,dcz2,dcz3,dcy1,dcy2,dcy3,dcwz,dcfx,dcfy,dcfl,dcc,dcf2,dcf3]); with_reducible rfl))) | ((with_reducible refine AW.cond_true ?_ ?_); · rfl) | ((with_reducible refine AW.cond_false ?_ ?_); · rfl) | simp (maxSteps := 3000000) (maxDischargeDepth := 12) only [push_cast,appendX,reduceIte,reduceCtorEq,Nat.reduceSub,Nat.reduceAdd,Nat.reduceMul,Nat.reduceLT,Nat.reduceLeDiff,Nat.reduceEqDiff,Nat.reduceBEq,Int.reduceToNat,Int.reduceLT,Int.reduceLE,Int.reduceEq,Int.reduceNeg,Try.results40,gtt,Heap.lt gtt,gtq,Heap.lt gtq,dcw0,gt4,Heap.lt gt4,xt4.2,xt4.ltT,xt4.leT,gtq4,Heap.lt gtq4,dcz,dcz1,dcz2,dcz3,dcy1,dcy2,dcy3,dcwz,dcfx,dcfy,dcfl,dcc,dcf2,dcf3])
        refine ⟨Q.length, by simp, Q, y :: P2, z - 1, rfl, by rw [hPP]; simp, by omega, ?_, ?_, by repeat (first | exact Ext.refl _ _ | assumption | refine Ext.push ?_ _ | ((refine Ext.set ?_ ?_ _); rotate_left; · (simp (maxSteps := 3000000) (maxDischargeDepth := 12) only [push_cast, appendX, Nat.reduceAdd, Nat.reduceEqDiff, Nat.reduceLT, Nat.reduceLeDiff, reduceIte, reduceCtorEq, gtt, Heap.lt gtt, gtq, Heap.lt gtq, dcw0, gt4, Heap.lt gt4, xt4.2, xt4.ltT, xt4.leT, gtq4, Heap.lt gtq4, dcz, dcz1, dcz2, dcz3, dcy1, dcy2, dcy3, dcwz, dcfx, dcfy, dcfl, dcc, dcf2, dcf3])) | ((refine Ext.then1 (by assumption) ?_ ?_); rotate_left; · (intro p hp _; first | assumption | exact List.mem_cons_of_mem _ hp | (cases hp; done) | (simp at hp; subst hp; simp)))), by (simp only [push_cast, TellsL, tells_any, tells_refl])⟩
        · intro w hw
          rcases List.mem_cons.1 hw with rfl | hw
          · exact hlt
          · exact h2 w hw
        · rw [Heap.get_set (by simpa using hlt4), hsw]
          simp [eI]
      · have dcc : decide (cmpI (key l x) (key l y) < 0) = false := decide_eq_false (fun h => hlt ((cmpI_neg _ _).1 h))
        have dcwk : IntKind.i64.wrap ((A.length : Int) + (k : Int) + 1) = (A.length : Int) + (k : Int) + 1 := wrap_i64 (by omega) (by omega)
        have hzk1 : ((A.length + (k + 1) : Nat) : Int) = (A.length : Int) + (k : Int) + 1 := by omega
        repeat (first | (with_reducible refine AW.seq ?_) | (with_reducible refine AW.block ?_) | (with_reducible refine AW.skip ?_) | (with_reducible refine AW.ret ?_) | (with_reducible refine AW.exit ?_) | (with_reducible refine AW.reg hT ?_) | (with_reducible refine AW.drawn (id := 4) hT [0,1,2,3,4,5,6,7,8,9,10,11,12,13,14,15,16] [[],[],[0,1],[0,1,2],[0,1,2,3],[0,1,2,3],[0,1,2,3],[0,1,2,3,5,6],[0,1,2,3,5,6,7],[0,1,2,3],[0,1,2,3],[0,1,2,3,10],[0,1,2,3,9,10,11],[0,1,2,3,9,10,11,12],[0,1,2,3,4,5,6,7,8,9,10,11,12,13],[0,1,2,3,4,5,6,7,8,9,10,11,12,13,14],[0,1,2,3,4,5,6,7,8,9,10,11,12,13,14,15]] mix (by kernel_rfl) ?_) | (with_reducible refine AW.drawn (id := 6) hT [0,1,2,3,4,5,6,7,8,9,10,11,12,13,14,15,16,17] [[],[],[],[],[3],[],[],[6],[5,6,7],[5,6,7,8],[],[],[10,11],[10,11,12],[0,1,5,6,7,8,9,10,11,12,13],[0,1,5,6,7,8,9,10,11,12,13,14],[0,1,2,3,4,5,6,7,8,9,10,11,12,13,14,15],[0,1,2,3,4,5,6,7,8,9,10,11,12,13,14,15,16]] mix (by kernel_rfl) ?_) | ((with_reducible show DLeft _ _ _ _ (_ :: _) _ _ _ _); (with_reducible apply DLeft.step hT); (case hoi => ((simp only [List.getElem?_toArray,List.getElem?_cons_zero,List.getElem?_cons_succ]); with_reducible rfl)); (case hg => rfl); (case hk => rfl); (case hr => ((try simp (maxSteps := 3000000) (maxDischargeDepth := 12) only [push_cast,appendX,reduceIte,reduceCtorEq,Nat.reduceSub,Nat.reduceAdd,Nat.reduceMul,Nat.reduceLT,Nat.reduceLeDiff,Nat.reduceEqDiff,Nat.reduceBEq,Int.reduceToNat,Int.reduceLT,Int.reduceLE,Int.reduceEq,Int.reduceNeg,Try.results40,gtt,Heap.lt gtt,gtq,Heap.lt gtq,dcw0,gt4,Heap.lt gt4,xt4.2,xt4.ltT,xt4.leT,gtq4,Heap.lt gtq4,dcz,dcz1,dcz2,dcz3,dcy1,dcy2,dcy3,dcwz,dcfx,dcfy,dcfl,dcc,dcwk]); with_reducible rfl))) | ((with_reducible refine AW.cond_true ?_ ?_); · rfl) | ((with_reducible refine AW.cond_false ?_ ?_); · rfl) | simp (maxSteps := 3000000) (maxDischargeDepth := 12) only [push_cast,appendX,reduceIte,reduceCtorEq,Nat.reduceSub,Nat.reduceAdd,Nat.reduceMul,Nat.reduceLT,Nat.reduceLeDiff,Nat.reduceEqDiff,Nat.reduceBEq,Int.reduceToNat,Int.reduceLT,Int.reduceLE,Int.reduceEq,Int.reduceNeg,Try.results40,gtt,Heap.lt gtt,gtq,Heap.lt gtq,dcw0,gt4,Heap.lt gt4,xt4.2,xt4.ltT,xt4.leT,gtq4,Heap.lt gtq4,dcz,dcz1,dcz2,dcz3,dcy1,dcy2,dcy3,dcwz,dcfx,dcfy,dcfl,dcc,dcwk])
        refine ⟨S.length + 2 - (k + 1), by omega, k + 1, (Q ++ [y]) ++ x :: P2, rfl, by omega, by omega, ?_, Rk.insert (by rw [← hPP]; exact hPR) (fun w hw => hPlt w (by rw [hPP]; exact List.mem_append_left _ hw)) h2 (fun w hw => by simp at hw; subst hw; omega), by rw [gt4, hfull]; simp, xt4, by (simp only [push_cast, TellsL, tells_any, tells_refl, hzk1])⟩
        refine List.Perm.trans ?_ hPx
        rw [hPP, List.append_assoc (Q ++ [y])]
        exact List.Perm.append_left _ ((List.perm_append_comm (l₁ := [x]) (l₂ := P2)))
  · have dck : decide ((A.length : Int) + (k : Int) < (A.length : Int) + (S.length : Int)) = false := decide_eq_false (by omega)
    repeat (first | (with_reducible refine AW.seq ?_) | (with_reducible refine AW.block ?_) | (with_reducible refine AW.skip ?_) | (with_reducible refine AW.ret ?_) | (with_reducible refine AW.exit ?_) | (with_reducible refine AW.reg hT ?_) | (with_reducible refine AW.drawn (id := 4) hT [0,1,2,3,4,5,6,7,8,9,10,11,12,13,14,15,16] [[],[],[0,1],[0,1,2],[0,1,2,3],[0,1,2,3],[0,1,2,3],[0,1,2,3,5,6],[0,1,2,3,5,6,7],[0,1,2,3],[0,1,2,3],[0,1,2,3,10],[0,1,2,3,9,10,11],[0,1,2,3,9,10,11,12],[0,1,2,3,4,5,6,7,8,9,10,11,12,13],[0,1,2,3,4,5,6,7,8,9,10,11,12,13,14],[0,1,2,3,4,5,6,7,8,9,10,11,12,13,14,15]] mix (by kernel_rfl) ?_) | (with_reducible refine AW.drawn (id := 6) hT [0,1,2,3,4,5,6,7,8,9,10,11,12,13,14,15,16,17] [[],[],[],[],[3],[],[],[6],[5,6,7],[5,6,7,8],[],[],[10,11],[10,11,12],[0,1,5,6,7,8,9,10,11,12,13],[0,1,5,6,7,8,9,10,11,12,13,14],[0,1,2,3,4,5,6,7,8,9,10,11,12,13,14,15],[0,1,2,3,4,5,6,7,8,9,10,11,12,13,14,15,16]] mix (by kernel_rfl) ?_) | ((with_reducible show DLeft _ _ _ _ (_ :: _) _ _ _ _); (with_reducible apply DLeft.step hT); (case hoi => ((simp only [List.getElem?_toArray,List.getElem?_cons_zero,List.getElem?_cons_succ]); with_reducible rfl)); (case hg => rfl); (case hk => rfl); (case hr => ((try simp (maxSteps := 3000000) (maxDischargeDepth := 12) only [push_cast,appendX,reduceIte,reduceCtorEq,Nat.reduceSub,Nat.reduceAdd,Nat.reduceMul,Nat.reduceLT,Nat.reduceLeDiff,Nat.reduceEqDiff,Nat.reduceBEq,Int.reduceToNat,Int.reduceLT,Int.reduceLE,Int.reduceEq,Int.reduceNeg,Try.results40,gtt,Heap.lt gtt,gtq,Heap.lt gtq,dcw0,dck]); with_reducible rfl))) | ((with_reducible refine AW.cond_true ?_ ?_); · rfl) | ((with_reducible refine AW.cond_false ?_ ?_); · rfl) | simp (maxSteps := 3000000) (maxDischargeDepth := 12) only [push_cast,appendX,reduceIte,reduceCtorEq,Nat.reduceSub,Nat.reduceAdd,Nat.reduceMul,Nat.reduceLT,Nat.reduceLeDiff,Nat.reduceEqDiff,Nat.reduceBEq,Int.reduceToNat,Int.reduceLT,Int.reduceLE,Int.reduceEq,Int.reduceNeg,Try.results40,gtt,Heap.lt gtt,gtq,Heap.lt gtq,dcw0,dck])
    rw [List.take_of_length_le (by omega)] at hP
    rw [List.drop_eq_nil_of_le (by omega), List.append_nil] at gt3
    exact ⟨P, hP, hPR, gt3, xt3⟩
theorem stableS_ok (σ : Heap) (l : List Lk) {t q : Nat} (S : List Nat) (C : List (List DV)) (n m0 : Nat) (hnS : n = S.length) (hm : m0 = S.length + C.length) (gtt : σ.get t = some ⟨S.map eI ++ C, 3, true⟩) (gtq : σ.get q = some (LB l)) (hS : S.Pairwise (· < ·)) (hSl : ∀ x ∈ S, x < l.length) (hbig : n ≤ 1000000) (h20 : n < 20) :
    ACalls Try.prog 36 [.sl t 0 n m0, .sc (.int .i64 n), .fn (.func 28) [] [.ptr q 0 0 1]] σ (fun y σ' => ∃ S' : List Nat, S'.Perm S ∧ S'.Pairwise (Rk l) ∧ σ'.get t = some ⟨S'.map eI ++ C, 3, true⟩ ∧ Ext [t] σ σ') := by
  have dcn : decide ((20 : Int) ≤ (n : Int)) = false := decide_eq_false (by omega)
  have dcn2 : decide ((20 : Int) < (n : Int)) = false := decide_eq_false (by omega)
  have dc20 : IntKind.i64.wrap ((0 : Int) + 20) = 20 := by decide
  refine ACalls.code hT Try.func36 rfl ?_
  simp only [Try.ntmps36, List.length_cons, List.length_nil, Nat.reduceSub, Nat.reduceAdd, List.replicate, List.cons_append, List.nil_append]
  repeat (first | (with_reducible refine AW.seq ?_) | (with_reducible refine AW.block ?_) | (with_reducible refine AW.skip ?_) | (with_reducible refine AW.ret ?_) | (with_reducible refine AW.exit ?_) | (with_reducible refine AW.reg hT ?_) | ((with_reducible refine AW.cond_true ?_ ?_); · rfl) | ((with_reducible refine AW.cond_false ?_ ?_); · rfl) | simp (maxSteps := 3000000) (maxDischargeDepth := 12) only [push_cast,appendX,reduceIte,reduceCtorEq,Nat.reduceSub,Nat.reduceAdd,Nat.reduceMul,Nat.reduceLT,Nat.reduceLeDiff,Nat.reduceEqDiff,Nat.reduceBEq,Int.reduceToNat,Int.reduceLT,Int.reduceLE,Int.reduceEq,Int.reduceNeg,Try.results36,gtt,Heap.lt gtt,gtq,Heap.lt gtq,dcn,dcn2,dc20])
  refine AW.loop (fun m ts σ' => σ' = σ ∧ TellsL ts (.sl t 0 n m0 :: .sc (.int .i64 n) :: .fn (.func 28) [] [.ptr q 0 0 1] :: .any :: .any :: .any :: .sc (.int .i64 20) :: .sc (.int .i64 0) :: .sc (.int .i64 20) :: .any :: .any :: .any :: .any :: .any :: .any :: .any :: .any :: .any :: .any :: .any :: .any :: .any :: .any :: .any :: .any :: .any :: .any :: .any :: .any :: .any :: .any :: .any :: .any :: .any :: .any :: .any :: .any :: .any :: .any :: .any :: .any :: .any :: .any :: .any :: .any :: .any :: .any :: .any :: .any :: .any :: .any :: .any :: .any :: .any :: .any :: .any :: .any :: .any :: .any :: .any :: .any :: .any :: .any :: [])) (m := 0) ⟨rfl, by (simp only [push_cast, TellsL, tells_any, tells_refl])⟩ ?_
  rintro m ts σ' ⟨rfl, hts⟩
  refine AW.told hts ?_
  clear hts
  repeat (first | (with_reducible refine AW.seq ?_) | (with_reducible refine AW.block ?_) | (with_reducible refine AW.skip ?_) | (with_reducible refine AW.ret ?_) | (with_reducible refine AW.exit ?_) | (with_reducible refine AW.reg hT ?_) | ((with_reducible refine AW.cond_true ?_ ?_); · rfl) | ((with_reducible refine AW.cond_false ?_ ?_); · rfl) | simp (maxSteps := 3000000) (maxDischargeDepth := 12) only [push_cast,appendX,reduceIte,reduceCtorEq,Nat.reduceSub,Nat.reduceAdd,Nat.reduceMul,Nat.reduceLT,Nat.reduceLeDiff,Nat.reduceEqDiff,Nat.reduceBEq,Int.reduceToNat,Int.reduceLT,Int.reduceLE,Int.reduceEq,Int.reduceNeg,Try.results36,gtt,Heap.lt gtt,gtq,Heap.lt gtq,dcn,dcn2,dc20])
  refine AOpsL.call (first := []) (cap := []) hT rfl rfl rfl fn40 rfl (ACalls.mono (insC_ok _ l [] S C 0 n n m0 rfl (by simp [hnS]) (by simp [hm]) gtt gtq (Nat.le_refl _) (by omega) hS hSl hbig) ?_)
  rintro y σ1 ⟨S', h1, h2, gt1, xt1⟩
  repeat (first | (with_reducible refine AW.seq ?_) | (with_reducible refine AW.block ?_) | (with_reducible refine AW.skip ?_) | (with_reducible refine AW.ret ?_) | (with_reducible refine AW.exit ?_) | (with_reducible refine AW.reg hT ?_) | ((with_reducible refine AW.cond_true ?_ ?_); · rfl) | ((with_reducible refine AW.cond_false ?_ ?_); · rfl) | simp (maxSteps := 3000000) (maxDischargeDepth := 12) only [push_cast,appendX,reduceIte,reduceCtorEq,Nat.reduceSub,Nat.reduceAdd,Nat.reduceMul,Nat.reduceLT,Nat.reduceLeDiff,Nat.reduceEqDiff,Nat.reduceBEq,Int.reduceToNat,Int.reduceLT,Int.reduceLE,Int.reduceEq,Int.reduceNeg,Try.results36,gtt,Heap.lt gtt,gtq,Heap.lt gtq,dcn,dcn2,dc20,gt1,Heap.lt gt1,xt1.2,xt1.ltT,xt1.leT])
  refine AW.loop (fun m ts σ' => σ' = σ1 ∧ TellsL ts (.any :: .sc (.int .i64 n) :: .any :: .any :: .any :: .any :: .sc (.int .i64 20) :: .any :: .any :: .any :: .any :: .any :: .any :: .any :: .any :: .any :: .any :: .any :: .any :: .any :: .any :: .any :: .any :: .any :: .any :: .any :: .any :: .any :: .any :: .any :: .any :: .any :: .any :: .any :: .any :: .any :: .any :: .any :: .any :: .any :: .any :: .any :: .any :: .any :: .any :: .any :: .any :: .any :: .any :: .any :: .any :: .any :: .any :: .any :: .any :: .any :: .any :: .any :: .any :: .any :: .any :: .any :: .any :: [])) (m := 0) ⟨rfl, by (simp only [push_cast, TellsL, tells_any, tells_refl])⟩ ?_
  rintro m ts σ' ⟨rfl, hts⟩
  refine AW.told hts ?_
  clear hts
  repeat (first | (with_reducible refine AW.seq ?_) | (with_reducible refine AW.block ?_) | (with_reducible refine AW.skip ?_) | (with_reducible refine AW.ret ?_) | (with_reducible refine AW.exit ?_) | (with_reducible refine AW.reg hT ?_) | ((with_reducible refine AW.cond_true ?_ ?_); · rfl) | ((with_reducible refine AW.cond_false ?_ ?_); · rfl) | simp (maxSteps := 3000000) (maxDischargeDepth := 12) only [push_cast,appendX,reduceIte,reduceCtorEq,Nat.reduceSub,Nat.reduceAdd,Nat.reduceMul,Nat.reduceLT,Nat.reduceLeDiff,Nat.reduceEqDiff,Nat.reduceBEq,Int.reduceToNat,Int.reduceLT,Int.reduceLE,Int.reduceEq,Int.reduceNeg,Try.results36,gtt,Heap.lt gtt,gtq,Heap.lt gtq,dcn,dcn2,dc20,gt1,Heap.lt gt1,xt1.2,xt1.ltT,xt1.leT])
  exact ⟨S', h1, h2, rfl, xt1⟩
theorem sortS_ok (σ : Heap) (l : List Lk) {t q : Nat} (S : List Nat) (C : List (List DV)) (n m0 : Nat) (hnS : n = S.length) (hm : m0 = S.length + C.length) (gtt : σ.get t = some ⟨S.map eI ++ C, 3, true⟩) (gtq : σ.get q = some (LB l)) (hS : S.Pairwise (· < ·)) (hSl : ∀ x ∈ S, x < l.length) (hbig : n ≤ 1000000) (h20 : n < 20) :
    ACalls Try.prog 27 [.sl t 0 n m0, .fn (.func 28) [] [.ptr q 0 0 1]] σ (fun y σ' => ∃ S' : List Nat, S'.Perm S ∧ S'.Pairwise (Rk l) ∧ σ'.get t = some ⟨S'.map eI ++ C, 3, true⟩ ∧ Ext [t] σ σ') := by
  refine ACalls.code hT Try.func27 rfl ?_
  simp only [Try.ntmps27, List.length_cons, List.length_nil, Nat.reduceSub, Nat.reduceAdd, List.replicate, List.cons_append, List.nil_append]
  repeat (first | (with_reducible refine AW.seq ?_) | (with_reducible refine AW.block ?_) | (with_reducible refine AW.skip ?_) | (with_reducible refine AW.ret ?_) | (with_reducible refine AW.exit ?_) | (with_reducible refine AW.reg hT ?_) | ((with_reducible refine AW.cond_true ?_ ?_); · rfl) | ((with_reducible refine AW.cond_false ?_ ?_); · rfl) | simp (maxSteps := 3000000) (maxDischargeDepth := 12) only [push_cast,appendX,reduceIte,reduceCtorEq,Nat.reduceSub,Nat.reduceAdd,Nat.reduceMul,Nat.reduceLT,Nat.reduceLeDiff,Nat.reduceEqDiff,Nat.reduceBEq,Int.reduceToNat,Int.reduceLT,Int.reduceLE,Int.reduceEq,Int.reduceNeg,Try.results27,gtt,Heap.lt gtt,gtq,Heap.lt gtq])
  refine AOpsL.call (first := []) (cap := []) hT rfl rfl rfl fn36 rfl (ACalls.mono (stableS_ok _ l S C n m0 hnS hm gtt gtq hS hSl hbig h20) ?_)
  rintro y σ1 ⟨S', h1, h2, gt1, xt1⟩
  repeat (first | (with_reducible refine AW.seq ?_) | (with_reducible refine AW.block ?_) | (with_reducible refine AW.skip ?_) | (with_reducible refine AW.ret ?_) | (with_reducible refine AW.exit ?_) | (with_reducible refine AW.reg hT ?_) | ((with_reducible refine AW.cond_true ?_ ?_); · rfl) | ((with_reducible refine AW.cond_false ?_ ?_); · rfl) | simp (maxSteps := 3000000) (maxDischargeDepth := 12) only [push_cast,appendX,reduceIte,reduceCtorEq,Nat.reduceSub,Nat.reduceAdd,Nat.reduceMul,Nat.reduceLT,Nat.reduceLeDiff,Nat.reduceEqDiff,Nat.reduceBEq,Int.reduceToNat,Int.reduceLT,Int.reduceLE,Int.reduceEq,Int.reduceNeg,Try.results27,gtt,Heap.lt gtt,gtq,Heap.lt gtq,gt1,Heap.lt gt1,xt1.2,xt1.ltT,xt1.leT])
  exact ⟨S', h1, h2, rfl, xt1⟩
theorem ins_nil (σ : Heap) (cap : List DV) : ACalls Try.prog 40 [.sc (.slice none 0 0), .sc (.int .i64 0), .sc (.int .i64 0), .fn (.func 28) [] cap] σ (fun y σ' => σ' = σ) := by
  have dcw1 : IntKind.i64.wrap 1 = 1 := by decide
  refine ACalls.code hT Try.func40 rfl ?_
  simp only [Try.ntmps40, List.length_cons, List.length_nil, Nat.reduceSub, Nat.reduceAdd, List.replicate, List.cons_append, List.nil_append]
  repeat (first | (with_reducible refine AW.seq ?_) | (with_reducible refine AW.block ?_) | (with_reducible refine AW.skip ?_) | (with_reducible refine AW.ret ?_) | (with_reducible refine AW.exit ?_) | (with_reducible refine AW.reg hT ?_) | (with_reducible refine AW.drawn (id := 4) hT [0,1,2,3,4,5,6,7,8,9,10,11,12,13,14,15,16] [[],[],[0,1],[0,1,2],[0,1,2,3],[0,1,2,3],[0,1,2,3],[0,1,2,3,5,6],[0,1,2,3,5,6,7],[0,1,2,3],[0,1,2,3],[0,1,2,3,10],[0,1,2,3,9,10,11],[0,1,2,3,9,10,11,12],[0,1,2,3,4,5,6,7,8,9,10,11,12,13],[0,1,2,3,4,5,6,7,8,9,10,11,12,13,14],[0,1,2,3,4,5,6,7,8,9,10,11,12,13,14,15]] mix (by kernel_rfl) ?_) | (with_reducible refine AW.drawn (id := 6) hT [0,1,2,3,4,5,6,7,8,9,10,11,12,13,14,15,16,17] [[],[],[],[],[3],[],[],[6],[5,6,7],[5,6,7,8],[],[],[10,11],[10,11,12],[0,1,5,6,7,8,9,10,11,12,13],[0,1,5,6,7,8,9,10,11,12,13,14],[0,1,2,3,4,5,6,7,8,9,10,11,12,13,14,15],[0,1,2,3,4,5,6,7,8,9,10,11,12,13,14,15,16]] mix (by kernel_rfl) ?_) | ((with_reducible show DLeft _ _ _ _ (_ :: _) _ _ _ _); (with_reducible apply DLeft.step hT); (case hoi => ((simp only [List.getElem?_toArray,List.getElem?_cons_zero,List.getElem?_cons_succ]); with_reducible rfl)); (case hg => rfl); (case hk => rfl); (case hr => ((try simp (maxSteps := 3000000) (maxDischargeDepth := 12) only [push_cast,appendX,reduceIte,reduceCtorEq,Nat.reduceSub,Nat.reduceAdd,Nat.reduceMul,Nat.reduceLT,Nat.reduceLeDiff,Nat.reduceEqDiff,Nat.reduceBEq,Int.reduceToNat,Int.reduceLT,Int.reduceLE,Int.reduceEq,Int.reduceNeg,Try.results40,dcw1]); with_reducible rfl))) | ((with_reducible refine AW.cond_true ?_ ?_); · rfl) | ((with_reducible refine AW.cond_false ?_ ?_); · rfl) | simp (maxSteps := 3000000) (maxDischargeDepth := 12) only [push_cast,appendX,reduceIte,reduceCtorEq,Nat.reduceSub,Nat.reduceAdd,Nat.reduceMul,Nat.reduceLT,Nat.reduceLeDiff,Nat.reduceEqDiff,Nat.reduceBEq,Int.reduceToNat,Int.reduceLT,Int.reduceLE,Int.reduceEq,Int.reduceNeg,Try.results40,dcw1])
  refine AW.loop (fun m ts σ' => σ' = σ ∧ TellsL ts (.any :: .any :: .sc (.int .i64 0) :: .any :: .any :: .any :: .any :: .any :: .sc (.int .i64 1) :: .any :: .any :: .any :: .any :: .any :: .any :: .any :: .any :: .any :: .any :: .any :: .any :: .any :: .any :: .any :: .any :: .any :: .any :: .any :: .any :: .any :: .any :: .any :: .any :: .any :: .any :: .any :: .any :: .any :: .any :: .any :: .any :: .any :: .any :: .any :: .any :: .any :: .any :: .any :: .any :: .any :: .any :: .any :: .any :: [])) (m := 0) ⟨rfl, by (simp only [push_cast, TellsL, tells_any, tells_refl])⟩ ?_
  rintro m ts σ' ⟨rfl, hts⟩
  refine AW.told hts ?_
  clear hts
  repeat (first | (with_reducible refine AW.seq ?_) | (with_reducible refine AW.block ?_) | (with_reducible refine AW.skip ?_) | (with_reducible refine AW.ret ?_) | (with_reducible refine AW.exit ?_) | (with_reducible refine AW.reg hT ?_) | (with_reducible refine AW.drawn (id := 4) hT [0,1,2,3,4,5,6,7,8,9,10,11,12,13,14,15,16] [[],[],[0,1],[0,1,2],[0,1,2,3],[0,1,2,3],[0,1,2,3],[0,1,2,3,5,6],[0,1,2,3,5,6,7],[0,1,2,3],[0,1,2,3],[0,1,2,3,10],[0,1,2,3,9,10,11],[0,1,2,3,9,10,11,12],[0,1,2,3,4,5,6,7,8,9,10,11,12,13],[0,1,2,3,4,5,6,7,8,9,10,11,12,13,14],[0,1,2,3,4,5,6,7,8,9,10,11,12,13,14,15]] mix (by kernel_rfl) ?_) | (with_reducible refine AW.drawn (id := 6) hT [0,1,2,3,4,5,6,7,8,9,10,11,12,13,14,15,16,17] [[],[],[],[],[3],[],[],[6],[5,6,7],[5,6,7,8],[],[],[10,11],[10,11,12],[0,1,5,6,7,8,9,10,11,12,13],[0,1,5,6,7,8,9,10,11,12,13,14],[0,1,2,3,4,5,6,7,8,9,10,11,12,13,14,15],[0,1,2,3,4,5,6,7,8,9,10,11,12,13,14,15,16]] mix (by kernel_rfl) ?_) | ((with_reducible show DLeft _ _ _ _ (_ :: _) _ _ _ _); (with_reducible apply DLeft.step hT); (case hoi => ((simp only [List.getElem?_toArray,List.getElem?_cons_zero,List.getElem?_cons_succ]); with_reducible rfl)); (case hg => rfl); (case hk => rfl); (case hr => ((try simp (maxSteps := 3000000) (maxDischargeDepth := 12) only [push_cast,appendX,reduceIte,reduceCtorEq,Nat.reduceSub,Nat.reduceAdd,Nat.reduceMul,Nat.reduceLT,Nat.reduceLeDiff,Nat.reduceEqDiff,Nat.reduceBEq,Int.reduceToNat,Int.reduceLT,Int.reduceLE,Int.reduceEq,Int.reduceNeg,Try.results40,dcw1]); with_reducible rfl))) | ((with_reducible refine AW.cond_true ?_ ?_); · rfl) | ((with_reducible refine AW.cond_false ?_ ?_); · rfl) | simp (maxSteps := 3000000) (maxDischargeDepth := 12) only [push_cast,appendX,reduceIte,reduceCtorEq,Nat.reduceSub,Nat.reduceAdd,Nat.reduceMul,Nat.reduceLT,Nat.reduceLeDiff,Nat.reduceEqDiff,Nat.reduceBEq,Int.reduceToNat,Int.reduceLT,Int.reduceLE,Int.reduceEq,Int.reduceNeg,Try.results40,dcw1])
theorem stable_nil (σ : Heap) (cap : List DV) : ACalls Try.prog 36 [.sc (.slice none 0 0), .sc (.int .i64 0), .fn (.func 28) [] cap] σ (fun y σ' => σ' = σ) := by
  refine ACalls.code hT Try.func36 rfl ?_
  simp only [Try.ntmps36, List.length_cons, List.length_nil, Nat.reduceSub, Nat.reduceAdd, List.replicate, List.cons_append, List.nil_append]
  repeat (first | (with_reducible refine AW.seq ?_) | (with_reducible refine AW.block ?_) | (with_reducible refine AW.skip ?_) | (with_reducible refine AW.ret ?_) | (with_reducible refine AW.exit ?_) | (with_reducible refine AW.reg hT ?_) | ((with_reducible refine AW.cond_true ?_ ?_); · rfl) | ((with_reducible refine AW.cond_false ?_ ?_); · rfl) | simp (maxSteps := 3000000) (maxDischargeDepth := 12) only [push_cast,appendX,reduceIte,reduceCtorEq,Nat.reduceSub,Nat.reduceAdd,Nat.reduceMul,Nat.reduceLT,Nat.reduceLeDiff,Nat.reduceEqDiff,Nat.reduceBEq,Int.reduceToNat,Int.reduceLT,Int.reduceLE,Int.reduceEq,Int.reduceNeg,Try.results36])
  refine AW.loop (fun m ts σ' => σ' = σ ∧ TellsL ts (.sc (.slice none 0 0) :: .sc (.int .i64 0) :: .fn (.func 28) [] cap :: .any :: .any :: .any :: .sc (.int .i64 20) :: .sc (.int .i64 0) :: .sc (.int .i64 20) :: .any :: .any :: .any :: .any :: .any :: .any :: .any :: .any :: .any :: .any :: .any :: .any :: .any :: .any :: .any :: .any :: .any :: .any :: .any :: .any :: .any :: .any :: .any :: .any :: .any :: .any :: .any :: .any :: .any :: .any :: .any :: .any :: .any :: .any :: .any :: .any :: .any :: .any :: .any :: .any :: .any :: .any :: .any :: .any :: .any :: .any :: .any :: .any :: .any :: .any :: .any :: .any :: .any :: .any :: [])) (m := 0) ⟨rfl, by (simp only [push_cast, TellsL, tells_any, tells_refl])⟩ ?_
  rintro m ts σ' ⟨rfl, hts⟩
  refine AW.told hts ?_
  clear hts
  repeat (first | (with_reducible refine AW.seq ?_) | (with_reducible refine AW.block ?_) | (with_reducible refine AW.skip ?_) | (with_reducible refine AW.ret ?_) | (with_reducible refine AW.exit ?_) | (with_reducible refine AW.reg hT ?_) | ((with_reducible refine AW.cond_true ?_ ?_); · rfl) | ((with_reducible refine AW.cond_false ?_ ?_); · rfl) | simp (maxSteps := 3000000) (maxDischargeDepth := 12) only [push_cast,appendX,reduceIte,reduceCtorEq,Nat.reduceSub,Nat.reduceAdd,Nat.reduceMul,Nat.reduceLT,Nat.reduceLeDiff,Nat.reduceEqDiff,Nat.reduceBEq,Int.reduceToNat,Int.reduceLT,Int.reduceLE,Int.reduceEq,Int.reduceNeg,Try.results36])
  refine AOpsL.call (first := []) (cap := []) hT rfl rfl rfl fn40 rfl (ACalls.mono (ins_nil _ cap) ?_)
  rintro y σ1 rfl
  repeat (first | (with_reducible refine AW.seq ?_) | (with_reducible refine AW.block ?_) | (with_reducible refine AW.skip ?_) | (with_reducible refine AW.ret ?_) | (with_reducible refine AW.exit ?_) | (with_reducible refine AW.reg hT ?_) | ((with_reducible refine AW.cond_true ?_ ?_); · rfl) | ((with_reducible refine AW.cond_false ?_ ?_); · rfl) | simp (maxSteps := 3000000) (maxDischargeDepth := 12) only [push_cast,appendX,reduceIte,reduceCtorEq,Nat.reduceSub,Nat.reduceAdd,Nat.reduceMul,Nat.reduceLT,Nat.reduceLeDiff,Nat.reduceEqDiff,Nat.reduceBEq,Int.reduceToNat,Int.reduceLT,Int.reduceLE,Int.reduceEq,Int.reduceNeg,Try.results36])
  refine AW.loop (fun m ts σ' => σ' = σ1 ∧ TellsL ts (.any :: .sc (.int .i64 0) :: .any :: .any :: .any :: .any :: .sc (.int .i64 20) :: .any :: .any :: .any :: .any :: .any :: .any :: .any :: .any :: .any :: .any :: .any :: .any :: .any :: .any :: .any :: .any :: .any :: .any :: .any :: .any :: .any :: .any :: .any :: .any :: .any :: .any :: .any :: .any :: .any :: .any :: .any :: .any :: .any :: .any :: .any :: .any :: .any :: .any :: .any :: .any :: .any :: .any :: .any :: .any :: .any :: .any :: .any :: .any :: .any :: .any :: .any :: .any :: .any :: .any :: .any :: .any :: [])) (m := 0) ⟨rfl, by (simp only [push_cast, TellsL, tells_any, tells_refl])⟩ ?_
  rintro m ts σ' ⟨rfl, hts⟩
  refine AW.told hts ?_
  clear hts
  repeat (first | (with_reducible refine AW.seq ?_) | (with_reducible refine AW.block ?_) | (with_reducible refine AW.skip ?_) | (with_reducible refine AW.ret ?_) | (with_reducible refine AW.exit ?_) | (with_reducible refine AW.reg hT ?_) | ((with_reducible refine AW.cond_true ?_ ?_); · rfl) | ((with_reducible refine AW.cond_false ?_ ?_); · rfl) | simp (maxSteps := 3000000) (maxDischargeDepth := 12) only [push_cast,appendX,reduceIte,reduceCtorEq,Nat.reduceSub,Nat.reduceAdd,Nat.reduceMul,Nat.reduceLT,Nat.reduceLeDiff,Nat.reduceEqDiff,Nat.reduceBEq,Int.reduceToNat,Int.reduceLT,Int.reduceLE,Int.reduceEq,Int.reduceNeg,Try.results36])
theorem sort_nil (σ : Heap) (cap : List DV) : ACalls Try.prog 27 [.sc (.slice none 0 0), .fn (.func 28) [] cap] σ (fun y σ' => σ' = σ) := by
  refine ACalls.code hT Try.func27 rfl ?_
  simp only [Try.ntmps27, List.length_cons, List.length_nil, Nat.reduceSub, Nat.reduceAdd, List.replicate, List.cons_append, List.nil_append]
  repeat (first | (with_reducible refine AW.seq ?_) | (with_reducible refine AW.block ?_) | (with_reducible refine AW.skip ?_) | (with_reducible refine AW.ret ?_) | (with_reducible refine AW.exit ?_) | (with_reducible refine AW.reg hT ?_) | ((with_reducible refine AW.cond_true ?_ ?_); · rfl) | ((with_reducible refine AW.cond_false ?_ ?_); · rfl) | simp (maxSteps := 3000000) (maxDischargeDepth := 12) only [push_cast,appendX,reduceIte,reduceCtorEq,Nat.reduceSub,Nat.reduceAdd,Nat.reduceMul,Nat.reduceLT,Nat.reduceLeDiff,Nat.reduceEqDiff,Nat.reduceBEq,Int.reduceToNat,Int.reduceLT,Int.reduceLE,Int.reduceEq,Int.reduceNeg,Try.results27])
  refine AOpsL.call (first := []) (cap := []) hT rfl rfl rfl fn36 rfl (ACalls.mono (stable_nil _ cap) ?_)
  rintro y σ1 rfl
  repeat (first | (with_reducible refine AW.seq ?_) | (with_reducible refine AW.block ?_) | (with_reducible refine AW.skip ?_) | (with_reducible refine AW.ret ?_) | (with_reducible refine AW.exit ?_) | (with_reducible refine AW.reg hT ?_) | ((with_reducible refine AW.cond_true ?_ ?_); · rfl) | ((with_reducible refine AW.cond_false ?_ ?_); · rfl) | simp (maxSteps := 3000000) (maxDischargeDepth := 12) only [push_cast,appendX,reduceIte,reduceCtorEq,Nat.reduceSub,Nat.reduceAdd,Nat.reduceMul,Nat.reduceLT,Nat.reduceLeDiff,Nat.reduceEqDiff,Nat.reduceBEq,Int.reduceToNat,Int.reduceLT,Int.reduceLE,Int.reduceEq,Int.reduceNeg,Try.results27])
/-- The sort, of a row that was made on the way. -/
theorem sortH_ok (σ : Heap) (l : List Lk) {q : Nat} {d : DV} (S : List Nat) (hh : Hold σ d 3 (S.map eI)) (gtq : σ.get q = some (LB l)) (hS : S.Pairwise (· < ·)) (hSl : ∀ x ∈ S, x < l.length) (h20 : S.length < 20) :
    ACalls Try.prog 27 [d, .fn (.func 28) [] [.ptr q 0 0 1]] σ (fun y σ' => ∃ S' : List Nat, S'.Perm S ∧ S'.Pairwise (Rk l) ∧ Hold σ' d 3 (S'.map eI) ∧ Ext (tOf d) σ σ') := by
  rcases hh with ⟨rfl, he⟩ | ⟨t, full, rfl, gtt, hle, htk⟩
  · have : S = [] := by simpa using he
    subst this
    refine (sort_nil σ [.ptr q 0 0 1]).mono ?_
    rintro y σ' rfl
    exact ⟨[], List.Perm.refl _, by simp, Hold.nil _ _, Ext.refl _ _⟩
  · have hfull : full = S.map eI ++ full.drop S.length := by
      rw [List.length_map] at htk
      conv => lhs; rw [← List.take_append_drop S.length full, htk]
    rw [List.length_map] at hle
    have h := sortS_ok σ l (t := t) (q := q) S (full.drop S.length) S.length full.length rfl (by rw [List.length_drop]; omega) (by rw [gtt, ← hfull]) gtq hS hSl (by omega) h20
    rw [List.length_map]
    refine h.mono ?_
    rintro y σ' ⟨S', h1, h2, h3, h4⟩
    refine ⟨S', h1, h2, .inr ⟨t, S'.map eI ++ full.drop S.length, ?_, h3, by simp, by simp⟩, by simpa [tOf] using h4⟩
    have := h1.length_eq
    simp [this]; omega
/-- The links that lead from a node, as they come. -/
def outsI (l : List Lk) (v : Int) : Nat → List Nat
  | 0 => []
  | i + 1 => outsI l v i ++ match l[i]? with | some x => if x.f0 = v then [i] else [] | none => []
theorem outsI_lt (l : List Lk) (v : Int) : ∀ i, ∀ k ∈ outsI l v i, k < i
  | 0, k, h => by cases h
  | i + 1, k, h => by
    rcases List.mem_append.1 h with h | h
    · have := outsI_lt l v i k h; omega
    · split at h
      · split at h
        · simp at h; omega
        · cases h
      · cases h
theorem outsI_sorted (l : List Lk) (v : Int) : ∀ i, (outsI l v i).Pairwise (· < ·)
  | 0 => by simp [outsI]
  | i + 1 => by
    rw [outsI, List.pairwise_append]
    refine ⟨outsI_sorted l v i, ?_, fun a ha b hb => ?_⟩
    · split
      · split <;> simp
      · simp
    · have := outsI_lt l v i a ha
      split at hb
      · split at hb
        · simp at hb; omega
        · cases hb
      · cases hb
theorem outsI_len (l : List Lk) (v : Int) : ∀ i, (outsI l v i).length ≤ i
  | 0 => by simp [outsI]
  | i + 1 => by
    have := outsI_len l v i
    rw [outsI, List.length_append]
    split
    · split <;> simp <;> omega
    · simp; omega
/-- An answer that is a row of its own, of which something is known, is told by its elements. -/
theorem toImmE {P : Program} {σ : Heap} {f : FuncId} {args : List DV} {e : TypeId} {α : Type} {Q : α → Prop} {g : α → List (List DV)} (h : ACalls P f args σ (fun x σ' => ∃ a, Q a ∧ Hold σ' x e (g a) ∧ (∀ q ∈ tOf x, σ.n ≤ q) ∧ Ext [] σ σ')) : ACalls P f args σ (fun x σ' => ∃ a, Q a ∧ x = .imm (g a) ∧ Ext [] σ σ') := by
  refine h.retell (fun c x v hok hv hR => ?_)
  obtain ⟨a, hQ, hrow, hnew, hext⟩ := hR
  rcases hrow with ⟨rfl, he⟩ | ⟨t, full, rfl, hget, hle, htk⟩
  · exact ⟨.imm [], c, rfl, hok, Ev.refl c, nil_imm hv, a, hQ, by rw [he], hext⟩
  · obtain ⟨h1, h2⟩ := Cm.freeze hok hget
    have hlt := Heap.lt hget
    refine ⟨.imm (g a), { c with σ := c.σ.set t { (⟨full, e, true⟩ : AObj) with own := false }, Z := fun b => c.Z b ∨ b = (c.μ t).blk }, rfl, h1, h2, ?_, a, hQ, rfl, hext.set (.inl (hnew t (by simp [tOf]))) _⟩
    have := FZ.v h1 (ob := ⟨full, e, false⟩) (Heap.get_set hlt) rfl (.inr rfl) (FZ.sl (off := 0) (len := (g a).length) (by simpa using hle)) (hv.ev h2)
    simpa [htk] using this
def ouI (l : List Lk) (v : Int) (q : Nat) (σ0 : Heap) (m : Nat) (ts : List DV) (σ : Heap) : Prop := ∃ i d, m = l.length + 1 - i ∧ i ≤ l.length ∧ Hold σ d 3 ((outsI l v i).map eI) ∧ (∀ p ∈ tOf d, σ0.n ≤ p) ∧ σ.get q = some (LB l) ∧ Ext [] σ0 σ ∧ TellsL ts (.any :: .sc (.int .i64 v) :: .ptr q 0 0 1 :: .any :: .any :: d :: .any :: .any :: .imm (l.map eK) :: .sc (.int .i64 l.length) :: .sc (.int .i64 i) :: .any :: .any :: .any :: .any :: .any :: .any :: .any :: .any :: .any :: .any :: .any :: .any :: .any :: .any :: .any :: .any :: .any :: [])
theorem outs_ok (σ : Heap) (l : List Lk) (v : Int) (h20 : (outsI l v l.length).length < 20) (hl : l.length ≤ 1000000) :
    ACalls Try.prog 16 [.imm (l.map eK), .sc (.int .i64 v)] σ (fun x σ' => ∃ S : List Nat, (S.Perm (outsI l v l.length) ∧ S.Pairwise (Rk l)) ∧ x = .imm (S.map eI) ∧ Ext [] σ σ') := by
  have dcml : (l.map eK).length = l.length := by simp
  refine toImmE (e := 3) ?_
  refine ACalls.code hT Try.func16 rfl ?_
  simp only [Try.ntmps16, List.length_cons, List.length_nil, Nat.reduceSub, Nat.reduceAdd, List.replicate, List.cons_append, List.nil_append]
  repeat (first | (with_reducible refine AW.seq ?_) | (with_reducible refine AW.block ?_) | (with_reducible refine AW.skip ?_) | (with_reducible refine AW.ret ?_) | (with_reducible refine AW.exit ?_) | (with_reducible refine AW.reg hT ?_) | ((with_reducible refine AW.cond_true ?_ ?_); · rfl) | ((with_reducible refine AW.cond_false ?_ ?_); · rfl) | simp (maxSteps := 3000000) (maxDischargeDepth := 12) only [push_cast,appendX,reduceIte,reduceCtorEq,Nat.reduceSub,Nat.reduceAdd,Nat.reduceMul,Nat.reduceLT,Nat.reduceLeDiff,Nat.reduceEqDiff,Nat.reduceBEq,Int.reduceToNat,Int.reduceLT,Int.reduceLE,Int.reduceEq,Int.reduceNeg,Try.results16,dcml])
  refine AW.loop (ouI l v σ.n σ) (m := l.length + 1) ⟨0, .sc (.slice none 0 0), rfl, Nat.zero_le _, Hold.nil _ _, by simp [tOf], by simp (maxSteps := 3000000) (maxDischargeDepth := 12) only [push_cast, appendX, Nat.reduceAdd, Nat.reduceEqDiff, Nat.reduceLT, Nat.reduceLeDiff, reduceIte, reduceCtorEq, LB, dcml], by repeat (first | exact Ext.refl _ _ | assumption | refine Ext.push ?_ _ | ((refine Ext.set ?_ ?_ _); rotate_left; · (simp (maxSteps := 3000000) (maxDischargeDepth := 12) only [push_cast, appendX, Nat.reduceAdd, Nat.reduceEqDiff, Nat.reduceLT, Nat.reduceLeDiff, reduceIte, reduceCtorEq, dcml])) | ((refine Ext.then1 (by assumption) ?_ ?_); rotate_left; · (intro p hp _; first | assumption | exact List.mem_cons_of_mem _ hp | (cases hp; done) | (simp at hp; subst hp; simp)))), by (simp only [push_cast, TellsL, tells_any, tells_refl])⟩ ?_
  have hqn : σ.n ≤ σ.n := Nat.le_refl _
  generalize hq : σ.n = q at hqn ⊢
  rintro m ts σ3 ⟨i, d, rfl, hil, hh, hnew, gtq, xt3, hts⟩
  refine AW.told hts ?_
  clear hts
  have hlt := Heap.lt gtq
  by_cases hi : i < l.length
  · have dci : decide ((i : Int) < (l.length : Int)) = true := by simp; omega
    have dci2 : ((i : Int) < (l.length : Int)) = True := by simp; omega
    have dci0 : ((0 : Int) ≤ (i : Int)) = True := by simp
    obtain ⟨x, hx⟩ : ∃ x, l[i]? = some x := ⟨_, List.getElem?_eq_getElem hi⟩
    have dcel : (l.map eK)[i]? = some (eK x) := by rw [List.getElem?_map, hx]; rfl
    rw [eK_eq] at dcel
    have dcw : IntKind.i64.wrap ((i : Int) + 1) = (i : Int) + 1 := wrap_i64 (by omega) (by omega)
    have hol := outsI_len l v i
    by_cases hv : x.f0 = v
    · have dcv : (x.f0 == v) = true := by simpa using hv
      have hou : (outsI l v (i + 1)).map eI = (outsI l v i).map eI ++ [[.sc (.int .i64 (i : Int))]] := by
        rw [outsI, hx]; simp [hv, eI]
      obtain ⟨d5, σ5, dnapp, hh5, hnew5, xt5, xt6⟩ := Hold.app1x (ty := 23) (x := [.sc (.int .i64 (i : Int))]) (σ0 := σ) (σ := (σ3.push ⟨[[.sc (.int .i64 0), .sc (.int .i64 0), .sc (.int .u64 0), .sc (.int .i64 0), .sc (.int .u32 0)]], 43, true⟩).set σ3.n ⟨[eK x], 43, true⟩) (hh.frame (X := []) (by repeat (first | exact Ext.refl _ _ | assumption | refine Ext.push ?_ _ | ((refine Ext.set ?_ ?_ _); rotate_left; · (simp (maxSteps := 3000000) (maxDischargeDepth := 12) only [push_cast, appendX, Nat.reduceAdd, Nat.reduceEqDiff, Nat.reduceLT, Nat.reduceLeDiff, reduceIte, reduceCtorEq, dcml, gtq, Heap.lt gtq, xt3.2, xt3.ltT, xt3.leT, dci, dci2, dci0, dcel, dcw, dcv])) | ((refine Ext.then1 (by assumption) ?_ ?_); rotate_left; · (intro p hp _; first | assumption | exact List.mem_cons_of_mem _ hp | (cases hp; done) | (simp at hp; subst hp; simp))))) (by simp)) hnew (by repeat (first | exact Ext.refl _ _ | assumption | refine Ext.push ?_ _ | ((refine Ext.set ?_ ?_ _); rotate_left; · (simp (maxSteps := 3000000) (maxDischargeDepth := 12) only [push_cast, appendX, Nat.reduceAdd, Nat.reduceEqDiff, Nat.reduceLT, Nat.reduceLeDiff, reduceIte, reduceCtorEq, dcml, gtq, Heap.lt gtq, xt3.2, xt3.ltT, xt3.leT, dci, dci2, dci0, dcel, dcw, dcv])) | ((refine Ext.then1 (by assumption) ?_ ?_); rotate_left; · (intro p hp _; first | assumption | exact List.mem_cons_of_mem _ hp | (cases hp; done) | (simp at hp; subst hp; simp))))) rfl rfl (by decide) rfl (by simp; omega)
      have gtq5 := xt6.get (p := q) (o := LB l) (by simp (maxSteps := 3000000) (maxDischargeDepth := 12) only [push_cast, appendX, Nat.reduceAdd, Nat.reduceEqDiff, Nat.reduceLT, Nat.reduceLeDiff, reduceIte, reduceCtorEq, gtq, dcml, gtq, Heap.lt gtq, xt3.2, xt3.ltT, xt3.leT, dci, dci2, dci0, dcel, dcw, dcv, ↓dnapp, xt5.2, xt5.ltT, xt5.leT, xt6.2, xt6.ltT, xt6.leT]) (hh.ne gtq (by simp [LB]))
      simp only [eK_eq, Heap.n_set, Heap.n_push] at dnapp
      clear xt6
      repeat (first | (with_reducible refine AW.seq ?_) | (with_reducible refine AW.block ?_) | (with_reducible refine AW.skip ?_) | (with_reducible refine AW.ret ?_) | (with_reducible refine AW.exit ?_) | (with_reducible refine AW.reg hT ?_) | ((with_reducible refine AW.cond_true ?_ ?_); · rfl) | ((with_reducible refine AW.cond_false ?_ ?_); · rfl) | simp (maxSteps := 3000000) (maxDischargeDepth := 12) only [push_cast,appendX,reduceIte,reduceCtorEq,Nat.reduceSub,Nat.reduceAdd,Nat.reduceMul,Nat.reduceLT,Nat.reduceLeDiff,Nat.reduceEqDiff,Nat.reduceBEq,Int.reduceToNat,Int.reduceLT,Int.reduceLE,Int.reduceEq,Int.reduceNeg,Try.results16,dcml,gtq,Heap.lt gtq,xt3.2,xt3.ltT,xt3.leT,dci,dci2,dci0,dcel,dcw,dcv,↓dnapp,xt5.2,xt5.ltT,xt5.leT,gtq5,Heap.lt gtq5])
      exact ⟨l.length + 1 - (i + 1), by omega, i + 1, d5, rfl, hi, by rw [hou]; exact hh5, hnew5, gtq5, xt5, by (simp only [push_cast, TellsL, tells_any, tells_refl])⟩
    · have dcv : (x.f0 == v) = false := by simpa using hv
      have hou : outsI l v (i + 1) = outsI l v i := by rw [outsI, hx]; simp [hv]
      repeat (first | (with_reducible refine AW.seq ?_) | (with_reducible refine AW.block ?_) | (with_reducible refine AW.skip ?_) | (with_reducible refine AW.ret ?_) | (with_reducible refine AW.exit ?_) | (with_reducible refine AW.reg hT ?_) | ((with_reducible refine AW.cond_true ?_ ?_); · rfl) | ((with_reducible refine AW.cond_false ?_ ?_); · rfl) | simp (maxSteps := 3000000) (maxDischargeDepth := 12) only [push_cast,appendX,reduceIte,reduceCtorEq,Nat.reduceSub,Nat.reduceAdd,Nat.reduceMul,Nat.reduceLT,Nat.reduceLeDiff,Nat.reduceEqDiff,Nat.reduceBEq,Int.reduceToNat,Int.reduceLT,Int.reduceLE,Int.reduceEq,Int.reduceNeg,Try.results16,dcml,gtq,Heap.lt gtq,xt3.2,xt3.ltT,xt3.leT,dci,dci2,dci0,dcel,dcw,dcv])
      exact ⟨l.length + 1 - (i + 1), by omega, i + 1, d, rfl, hi, by rw [hou]; exact hh.frame (X := []) (by repeat (first | exact Ext.refl _ _ | assumption | refine Ext.push ?_ _ | ((refine Ext.set ?_ ?_ _); rotate_left; · (simp (maxSteps := 3000000) (maxDischargeDepth := 12) only [push_cast, appendX, Nat.reduceAdd, Nat.reduceEqDiff, Nat.reduceLT, Nat.reduceLeDiff, reduceIte, reduceCtorEq, dcml, gtq, Heap.lt gtq, xt3.2, xt3.ltT, xt3.leT, dci, dci2, dci0, dcel, dcw, dcv])) | ((refine Ext.then1 (by assumption) ?_ ?_); rotate_left; · (intro p hp _; first | assumption | exact List.mem_cons_of_mem _ hp | (cases hp; done) | (simp at hp; subst hp; simp))))) (by simp), hnew, by simp (maxSteps := 3000000) (maxDischargeDepth := 12) only [push_cast, appendX, Nat.reduceAdd, Nat.reduceEqDiff, Nat.reduceLT, Nat.reduceLeDiff, reduceIte, reduceCtorEq, gtq, dcml, gtq, Heap.lt gtq, xt3.2, xt3.ltT, xt3.leT, dci, dci2, dci0, dcel, dcw, dcv], by repeat (first | exact Ext.refl _ _ | assumption | refine Ext.push ?_ _ | ((refine Ext.set ?_ ?_ _); rotate_left; · (simp (maxSteps := 3000000) (maxDischargeDepth := 12) only [push_cast, appendX, Nat.reduceAdd, Nat.reduceEqDiff, Nat.reduceLT, Nat.reduceLeDiff, reduceIte, reduceCtorEq, dcml, gtq, Heap.lt gtq, xt3.2, xt3.ltT, xt3.leT, dci, dci2, dci0, dcel, dcw, dcv])) | ((refine Ext.then1 (by assumption) ?_ ?_); rotate_left; · (intro p hp _; first | assumption | exact List.mem_cons_of_mem _ hp | (cases hp; done) | (simp at hp; subst hp; simp)))), by (simp only [push_cast, TellsL, tells_any, tells_refl])⟩
  · have dci : decide ((i : Int) < (l.length : Int)) = false := by simp; omega
    have he : i = l.length := by omega
    subst he
    have dncl := hh.cells
    have dnlf := hh.leaf
    repeat (first | (with_reducible refine AW.seq ?_) | (with_reducible refine AW.block ?_) | (with_reducible refine AW.skip ?_) | (with_reducible refine AW.ret ?_) | (with_reducible refine AW.exit ?_) | (with_reducible refine AW.reg hT ?_) | ((with_reducible refine AW.cond_true ?_ ?_); · rfl) | ((with_reducible refine AW.cond_false ?_ ?_); · rfl) | simp (maxSteps := 3000000) (maxDischargeDepth := 12) only [push_cast,appendX,reduceIte,reduceCtorEq,Nat.reduceSub,Nat.reduceAdd,Nat.reduceMul,Nat.reduceLT,Nat.reduceLeDiff,Nat.reduceEqDiff,Nat.reduceBEq,Int.reduceToNat,Int.reduceLT,Int.reduceLE,Int.reduceEq,Int.reduceNeg,Try.results16,dcml,gtq,Heap.lt gtq,xt3.2,xt3.ltT,xt3.leT,dci,↓dncl,↓dnlf])
    refine AOpsL.call (first := []) (cap := []) hT rfl rfl rfl fn27 rfl (ACalls.mono (sortH_ok _ l (outsI l v l.length) hh gtq (outsI_sorted l v _) (fun k hk => outsI_lt l v _ k hk) h20) ?_)
    rintro y σ4 ⟨S, h1, h2, hh4, xt4⟩
    repeat (first | (with_reducible refine AW.seq ?_) | (with_reducible refine AW.block ?_) | (with_reducible refine AW.skip ?_) | (with_reducible refine AW.ret ?_) | (with_reducible refine AW.exit ?_) | (with_reducible refine AW.reg hT ?_) | ((with_reducible refine AW.cond_true ?_ ?_); · rfl) | ((with_reducible refine AW.cond_false ?_ ?_); · rfl) | simp (maxSteps := 3000000) (maxDischargeDepth := 12) only [push_cast,appendX,reduceIte,reduceCtorEq,Nat.reduceSub,Nat.reduceAdd,Nat.reduceMul,Nat.reduceLT,Nat.reduceLeDiff,Nat.reduceEqDiff,Nat.reduceBEq,Int.reduceToNat,Int.reduceLT,Int.reduceLE,Int.reduceEq,Int.reduceNeg,Try.results16,dcml,gtq,Heap.lt gtq,xt3.2,xt3.ltT,xt3.leT,dci,↓dncl,↓dnlf,xt4.2,xt4.ltT,xt4.leT])
    exact ⟨S, ⟨h1, h2⟩, hh4, fun p hp => hq ▸ hnew p hp, xt3.then xt4 (fun p hp hl => absurd (hnew p hp) (by omega))⟩
end Go.Proofs.Ytpigelcckiejiaa.Cm
