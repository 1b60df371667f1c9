/- The document's Outs. The document's Near. -/
import Derived.Test.YtpigelcckiejiaaGYg
import Derived.Test.YtpigelcckiejiaaGYj
namespace Go.Proofs.Ytpigelcckiejiaa.Cm
open Go.RowKit
set_option linter.unusedVariables false
set_option linter.unusedSimpArgs false
set_option maxRecDepth 20000
set_option maxHeartbeats 8000000
/-- Two lists in order with the very same elements are one. -/
theorem one_order {α : Type} {r : α → α → Prop} (ha : ∀ a b, r a b → r b a → False) : ∀ {l1 l2 : List α}, l1.Pairwise r → l2.Pairwise r → (∀ x, x ∈ l1 ↔ x ∈ l2) → l1 = l2
  | [], [], _, _, _ => rfl
  | [], b :: vs, _, _, h => by have := (h b).2 (by simp); cases this
  | a :: us, [], _, _, h => by have := (h a).1 (by simp); cases this
  | a :: us, b :: vs, h1, h2, h => by
    rw [List.pairwise_cons] at h1 h2
    have hab : a = b := by
      rcases List.mem_cons.1 ((h a).1 (by simp)) with e | e
      · exact e
      · rcases List.mem_cons.1 ((h b).2 (by simp)) with e2 | e2
        · exact e2.symm
        · exact (ha _ _ (h1.1 b e2) (h2.1 a e)).elim
    subst hab
    congr 1
    refine one_order ha h1.2 h2.2 (fun x => ⟨fun hx => ?_, fun hx => ?_⟩)
    · rcases List.mem_cons.1 ((h x).1 (List.mem_cons_of_mem _ hx)) with e | e
      · subst e; exact (ha _ _ (h1.1 _ hx) (h1.1 _ hx)).elim
      · exact e
    · rcases List.mem_cons.1 ((h x).2 (List.mem_cons_of_mem _ hx)) with e | e
      · subst e; exact (ha _ _ (h2.1 _ hx) (h2.1 _ hx)).elim
      · exact e
theorem Rk.asymm {l : List Lk} (a b : Nat) (h : Rk l a b) (k : Rk l b a) : False := by
  unfold Rk at h k; omega
/-- A link laid among others, ahead of the first that leads to a greater node. -/
def insR (l : List Lk) (i : Nat) : List Nat → List Nat
  | [] => [i]
  | k :: r => if key l i < key l k then i :: k :: r else k :: insR l i r
def roI' (l : List Lk) (v : Int) : Nat → List Nat
  | 0 => []
  | i + 1 => match l[i]? with | some x => if x.f0 = v then insR l i (roI' l v i) else roI' l v i | none => roI' l v i
theorem mem_insR (l : List Lk) (i x : Nat) : ∀ r, x ∈ insR l i r ↔ x = i ∨ x ∈ r
  | [] => by simp [insR]
  | k :: r => by
    rw [insR]
    split
    · simp
    · rw [List.mem_cons, mem_insR l i x r, List.mem_cons]
      constructor
      · rintro (h | h | h)
        · exact .inr (.inl h)
        · exact .inl h
        · exact .inr (.inr h)
      · rintro (h | h | h)
        · exact .inr (.inl h)
        · exact .inl h
        · exact .inr (.inr h)
theorem insR_sorted (l : List Lk) (i : Nat) : ∀ r, r.Pairwise (Rk l) → (∀ k ∈ r, k < i) → (insR l i r).Pairwise (Rk l)
  | [], _, _ => by simp [insR]
  | k :: r, h, hlt => by
    rw [List.pairwise_cons] at h
    rw [insR]
    split
    · rename_i hk
      refine List.pairwise_cons.2 ⟨fun y hy => ?_, List.pairwise_cons.2 h⟩
      rcases List.mem_cons.1 hy with rfl | hy
      · exact .inl hk
      · have := h.1 y hy
        unfold Rk at this ⊢
        omega
    · rename_i hk
      refine List.pairwise_cons.2 ⟨fun y hy => ?_, insR_sorted l i r h.2 (fun k' hk' => hlt k' (List.mem_cons_of_mem _ hk'))⟩
      rcases (mem_insR l i y r).1 hy with rfl | hy
      · have := hlt k (by simp)
        unfold Rk; omega
      · exact h.1 y hy
theorem insR_len (l : List Lk) (i : Nat) : ∀ r, (insR l i r).length = r.length + 1
  | [] => rfl
  | k :: r => by
    rw [insR]
    split
    · simp
    · simp [insR_len l i r]
theorem mem_roI' (l : List Lk) (v : Int) (x : Nat) : ∀ i, x ∈ roI' l v i ↔ x ∈ outsI l v i
  | 0 => by simp [roI', outsI]
  | i + 1 => by
    rw [roI', outsI, List.mem_append, ← mem_roI' l v x i]
    cases l[i]? with
    | none => simp
    | some y =>
      simp only
      by_cases h : y.f0 = v
      · rw [if_pos h, if_pos h, mem_insR]; simp [or_comm]
      · rw [if_neg h, if_neg h]; simp
theorem roI'_sorted (l : List Lk) (v : Int) : ∀ i, (roI' l v i).Pairwise (Rk l)
  | 0 => by simp [roI']
  | i + 1 => by
    rw [roI']
    split
    · split
      · exact insR_sorted l i _ (roI'_sorted l v i) (fun k hk => outsI_lt l v i k ((mem_roI' l v k i).1 hk))
      · exact roI'_sorted l v i
    · exact roI'_sorted l v i
theorem roI'_lt (l : List Lk) (v : Int) (i : Nat) : ∀ k ∈ roI' l v i, k < i := fun k hk => outsI_lt l v i k ((mem_roI' l v k i).1 hk)
theorem roI'_len (l : List Lk) (v : Int) : ∀ i, (roI' l v i).length ≤ i
  | 0 => by simp [roI']
  | i + 1 => by
    have := roI'_len l v i
    rw [roI']
    split
    · split
      · rw [insR_len]; omega
      · omega
    · omega
theorem outs_one {l : List Lk} {v : Int} {S : List Nat} (h : S.Perm (outsI l v l.length)) (hs : S.Pairwise (Rk l)) : S = roI' l v l.length :=
  one_order (fun a b => Rk.asymm a b) hs (roI'_sorted l v _) (fun x => by rw [h.mem_iff, mem_roI'])
def rqI (l : List Lk) (v : Int) (σ0 : Heap) (m : Nat) (ts : List DV) (σ : Heap) : Prop := ∃ i d, m = l.length + 1 - i ∧ i ≤ l.length ∧ Hold σ d 3 ((roI' l v i).map eI) ∧ (∀ p ∈ tOf d, σ0.n ≤ p) ∧ Ext [] σ0 σ ∧ TellsL ts (.imm (l.map eK) :: .sc (.int .i64 v) :: .any :: .any :: .any :: d :: .sc (.int .i64 i) :: .any :: .any :: .any :: .any :: .any :: .any :: .any :: .any :: .any :: .any :: .any :: .any :: .any :: .any :: .any :: .any :: .any :: .any :: .any :: .any :: .any :: .any :: .any :: .any :: .any :: .any :: .any :: .any :: .any :: .any :: .any :: .any :: .any :: .any :: .any :: .any :: .any :: .any :: .any :: .any :: .any :: .any :: .any :: .any :: .any :: .any :: .any :: .any :: .any :: .any :: .any :: .any :: .any :: .any :: .any :: .any :: .any :: .any :: .any :: [])
def rqJ (l : List Lk) (v : Int) (i : Nat) (out : List Nat) (σ0 : Heap) (m : Nat) (ts : List DV) (σ : Heap) : Prop := ∃ k d b M, m = out.length + 1 - k ∧ k ≤ out.length ∧ Hold σ d 3 (M.map eI) ∧ M.length = k + b.toNat ∧ (∀ p ∈ tOf d, σ0.n ≤ p) ∧ Ext [] σ0 σ ∧ insR l i out = M ++ (if b = true then out.drop k else insR l i (out.drop k)) ∧ TellsL ts (.imm (l.map eK) :: .sc (.int .i64 v) :: .any :: .any :: .any :: .imm (out.map eI) :: .sc (.int .i64 i) :: d :: .sc (.bool b) :: .sc (.int .i64 k) :: .any :: .any :: .any :: .any :: .any :: .any :: .any :: .any :: .any :: .any :: .any :: .any :: .any :: .any :: .any :: .any :: .any :: .any :: .any :: .any :: .any :: .any :: .any :: .any :: .any :: .any :: .any :: .any :: .any :: .any :: .any :: .any :: .any :: .any :: .any :: .any :: .any :: .any :: .any :: .any :: .any :: .any :: .any :: .any :: .any :: .any :: .any :: .any :: .any :: .any :: .any :: .any :: .any :: .any :: .any :: .any :: [])
theorem routs_ok (σ : Heap) (l : List Lk) (v : Int) (hl : l.length ≤ 1000000) : ACalls Try.prog 21 [.imm (l.map eK), .sc (.int .i64 v)] σ (fun x σ' => x = .imm ((roI' l v l.length).map eI) ∧ Ext [] σ σ') := by
  have dcml : (l.map eK).length = l.length := by simp
  refine ACalls.toImmH (e := 3) ?_
  refine ACalls.code hT Try.func21 rfl ?_
  simp only [Try.ntmps21, List.length_cons, List.length_nil, Nat.reduceSub, Nat.reduceAdd, List.replicate, List.cons_append, List.nil_append]
  repeat (first | (with_reducible refine AW.seq ?_) | (with_reducible refine AW.block ?_) | (with_reducible refine AW.skip ?_) | (with_reducible refine AW.ret ?_) | (with_reducible refine AW.exit ?_) | (with_reducible refine AW.reg hT ?_) | ((with_reducible show AW _ (.region 11 _ _) _ _ _); (with_reducible refine AW.drawn (id := 11) hT [0,1,2,3,4,5,6,7,8,9,10,11,12,13,14,15,16,17] [[],[0],[0,1],[0,1,2],[0,1,2],[0,1,2],[0,1,2,4,5],[0,1,2,4,5,6],[0,1,2,3,4,5,6,7],[0,1,2,3,4,5,6,7,8],[0,1,2,3,4,5,6,7,8,9],[0,1,2],[0,1,2],[0,1,2,11,12],[0,1,2,11,12,13],[0,1,2,11,12,13,14],[0,1,2,3,4,5,6,7,8,9,10,11,12,13,14,15],[0,1,2,3,4,5,6,7,8,9,10,11,12,13,14,15,16]] mix (by kernel_rfl) ?_)) | ((with_reducible show DLeft _ _ _ _ (_ :: _) _ _ _ _); (with_reducible apply DLeft.step hT); (case hoi => ((simp only [List.getElem?_toArray,List.getElem?_cons_zero,List.getElem?_cons_succ]); with_reducible rfl)); (case hg => rfl); (case hk => rfl); (case hr => ((try simp (maxSteps := 3000000) (maxDischargeDepth := 12) only [push_cast,appendX,reduceIte,reduceCtorEq,Nat.reduceSub,Nat.reduceAdd,Nat.reduceMul,Nat.reduceLT,Nat.reduceLeDiff,Nat.reduceEqDiff,Nat.reduceBEq,Int.reduceToNat,Int.reduceLT,Int.reduceLE,Int.reduceEq,Int.reduceNeg,Try.results21,dcml]); with_reducible rfl))) | ((with_reducible refine AW.cond_true ?_ ?_); · rfl) | ((with_reducible refine AW.cond_false ?_ ?_); · rfl) | simp (maxSteps := 3000000) (maxDischargeDepth := 12) only [push_cast,appendX,reduceIte,reduceCtorEq,Nat.reduceSub,Nat.reduceAdd,Nat.reduceMul,Nat.reduceLT,Nat.reduceLeDiff,Nat.reduceEqDiff,Nat.reduceBEq,Int.reduceToNat,Int.reduceLT,Int.reduceLE,Int.reduceEq,Int.reduceNeg,Try.results21,dcml])
  refine AW.loop (rqI l v σ) (m := l.length + 1) ⟨0, .sc (.slice none 0 0), rfl, Nat.zero_le _, Hold.nil _ _, by simp [tOf], Ext.refl _ _, by (simp only [push_cast, TellsL, tells_any, tells_refl])⟩ ?_
  rintro m ts σ3 ⟨i, d, rfl, hil, hh, hnew, xt3, hts⟩
  refine AW.told hts ?_
  clear hts
  by_cases hi : i < l.length
  · have dci : decide ((i : Int) < (l.length : Int)) = true := decide_eq_true (by omega)
    have dci2 : ((i : Int) < (l.length : Int)) = True := by simp; omega
    have dci0 : ((0 : Int) ≤ (i : Int)) = True := by simp
    obtain ⟨x, hx⟩ : ∃ x, l[i]? = some x := ⟨_, List.getElem?_eq_getElem hi⟩
    have dcel : (l.map eK)[i]? = some (eK x) := by rw [List.getElem?_map, hx]; rfl
    rw [eK_eq] at dcel
    have dcw : IntKind.i64.wrap ((i : Int) + 1) = (i : Int) + 1 := wrap_i64 (by omega) (by omega)
    have hol := roI'_len l v i
    have hkx : key l i = x.f1 := by simp [key, hx]
    by_cases hv : x.f0 = v
    · have dcv : (x.f0 == v) = true := by simpa using hv
      have hou : roI' l v (i + 1) = insR l i (roI' l v i) := by rw [roI', hx]; simp [hv]
      have hlt := roI'_lt l v i
      refine AW.holdSlot (j := 5) hh rfl (fun σ4 xt4 => ?_)
      have xt5 : Ext [] σ σ4 := xt3.then xt4 (fun p hp hl => absurd (hnew p hp) (by omega))
      clear xt4 xt3 hh hnew
      generalize roI' l v i = out at hou hol hlt ⊢
      have dcmo : (out.map eI).length = out.length := by simp
      repeat (first | (with_reducible refine AW.seq ?_) | (with_reducible refine AW.block ?_) | (with_reducible refine AW.skip ?_) | (with_reducible refine AW.ret ?_) | (with_reducible refine AW.exit ?_) | (with_reducible refine AW.reg hT ?_) | ((with_reducible show AW _ (.region 11 _ _) _ _ _); (with_reducible refine AW.drawn (id := 11) hT [0,1,2,3,4,5,6,7,8,9,10,11,12,13,14,15,16,17] [[],[0],[0,1],[0,1,2],[0,1,2],[0,1,2],[0,1,2,4,5],[0,1,2,4,5,6],[0,1,2,3,4,5,6,7],[0,1,2,3,4,5,6,7,8],[0,1,2,3,4,5,6,7,8,9],[0,1,2],[0,1,2],[0,1,2,11,12],[0,1,2,11,12,13],[0,1,2,11,12,13,14],[0,1,2,3,4,5,6,7,8,9,10,11,12,13,14,15],[0,1,2,3,4,5,6,7,8,9,10,11,12,13,14,15,16]] mix (by kernel_rfl) ?_)) | ((with_reducible show DLeft _ _ _ _ (_ :: _) _ _ _ _); (with_reducible apply DLeft.step hT); (case hoi => ((simp only [List.getElem?_toArray,List.getElem?_cons_zero,List.getElem?_cons_succ]); with_reducible rfl)); (case hg => rfl); (case hk => rfl); (case hr => ((try simp (maxSteps := 3000000) (maxDischargeDepth := 12) only [push_cast,appendX,reduceIte,reduceCtorEq,Nat.reduceSub,Nat.reduceAdd,Nat.reduceMul,Nat.reduceLT,Nat.reduceLeDiff,Nat.reduceEqDiff,Nat.reduceBEq,Int.reduceToNat,Int.reduceLT,Int.reduceLE,Int.reduceEq,Int.reduceNeg,Try.results21,dcml,dci,dci2,dci0,dcel,dcw,dcv,xt5.2,xt5.ltT,xt5.leT,dcmo]); with_reducible rfl))) | ((with_reducible refine AW.cond_true ?_ ?_); · rfl) | ((with_reducible refine AW.cond_false ?_ ?_); · rfl) | simp (maxSteps := 3000000) (maxDischargeDepth := 12) only [push_cast,appendX,reduceIte,reduceCtorEq,Nat.reduceSub,Nat.reduceAdd,Nat.reduceMul,Nat.reduceLT,Nat.reduceLeDiff,Nat.reduceEqDiff,Nat.reduceBEq,Int.reduceToNat,Int.reduceLT,Int.reduceLE,Int.reduceEq,Int.reduceNeg,Try.results21,dcml,dci,dci2,dci0,dcel,dcw,dcv,xt5.2,xt5.ltT,xt5.leT,dcmo])
      refine AW.loop (rqJ l v i out σ) (m := out.length + 1) ⟨0, .sc (.slice none 0 0), false, [], rfl, Nat.zero_le _, Hold.nil _ _, by simp, by simp [tOf], xt5, by simp, by (simp only [push_cast, TellsL, tells_any, tells_refl])⟩ ?_
      clear xt5
      rintro m ts σ6 ⟨k, e, b, M, rfl, hkl, hh, hM, hnew, xt6, hins, hts⟩
      refine AW.told hts ?_
      clear hts
      by_cases hk : k < out.length
      · have dck : decide ((k : Int) < (out.length : Int)) = true := decide_eq_true (by omega)
        have dck2 : ((k : Int) < (out.length : Int)) = True := by simp; omega
        have dck0 : ((0 : Int) ≤ (k : Int)) = True := by simp
        have dcwk : IntKind.i64.wrap ((k : Int) + 1) = (k : Int) + 1 := wrap_i64 (by omega) (by omega)
        obtain ⟨y, hy⟩ : ∃ y, out[k]? = some y := ⟨_, List.getElem?_eq_getElem hk⟩
        have hdk : out.drop k = y :: out.drop (k + 1) := by
          rw [List.drop_eq_getElem_cons hk]
          rw [List.getElem?_eq_getElem hk] at hy
          rw [Option.some.inj hy]
        have hym : y < l.length := by have := hlt y (List.mem_of_getElem? hy); omega
        obtain ⟨z, hz⟩ : ∃ z, l[y]? = some z := ⟨_, List.getElem?_eq_getElem hym⟩
        have hkz : key l y = z.f1 := by simp [key, hz]
        have dcey : (out.map eI)[k]? = some [.sc (.int .i64 (y : Int))] := by rw [List.getElem?_map, hy]; rfl
        have dcez : (l.map eK)[y]? = some (eK z) := by rw [List.getElem?_map, hz]; rfl
        rw [eK_eq] at dcez
        have dcy2 : ((y : Int) < (l.length : Int)) = True := by simp; omega
        have dcy0 : ((0 : Int) ≤ (y : Int)) = True := by simp
        cases b with
        | true =>
          have hM : M.length = k + 1 := hM
          obtain ⟨d5, σ5, dnapp, hh5, hnew5, xt5, xt7⟩ := Hold.app1x (ty := 23) (x := [.sc (.int .i64 (y : Int))]) (σ0 := σ) (σ := σ6) hh hnew xt6 rfl rfl (by decide) rfl (by simp; omega)
          clear xt7
          repeat (first | (with_reducible refine AW.seq ?_) | (with_reducible refine AW.block ?_) | (with_reducible refine AW.skip ?_) | (with_reducible refine AW.ret ?_) | (with_reducible refine AW.exit ?_) | (with_reducible refine AW.reg hT ?_) | ((with_reducible show AW _ (.region 11 _ _) _ _ _); (with_reducible refine AW.drawn (id := 11) hT [0,1,2,3,4,5,6,7,8,9,10,11,12,13,14,15,16,17] [[],[0],[0,1],[0,1,2],[0,1,2],[0,1,2],[0,1,2,4,5],[0,1,2,4,5,6],[0,1,2,3,4,5,6,7],[0,1,2,3,4,5,6,7,8],[0,1,2,3,4,5,6,7,8,9],[0,1,2],[0,1,2],[0,1,2,11,12],[0,1,2,11,12,13],[0,1,2,11,12,13,14],[0,1,2,3,4,5,6,7,8,9,10,11,12,13,14,15],[0,1,2,3,4,5,6,7,8,9,10,11,12,13,14,15,16]] mix (by kernel_rfl) ?_)) | ((with_reducible show DLeft _ _ _ _ (_ :: _) _ _ _ _); (with_reducible apply DLeft.step hT); (case hoi => ((simp only [List.getElem?_toArray,List.getElem?_cons_zero,List.getElem?_cons_succ]); with_reducible rfl)); (case hg => rfl); (case hk => rfl); (case hr => ((try simp (maxSteps := 3000000) (maxDischargeDepth := 12) only [push_cast,appendX,reduceIte,reduceCtorEq,Nat.reduceSub,Nat.reduceAdd,Nat.reduceMul,Nat.reduceLT,Nat.reduceLeDiff,Nat.reduceEqDiff,Nat.reduceBEq,Int.reduceToNat,Int.reduceLT,Int.reduceLE,Int.reduceEq,Int.reduceNeg,Try.results21,dcml,dci,dci2,dci0,dcel,dcw,dcv,dcmo,xt6.2,xt6.ltT,xt6.leT,dck,dck2,dck0,dcwk,dcey,dcez,dcy2,dcy0,↓dnapp,xt5.2,xt5.ltT,xt5.leT]); with_reducible rfl))) | ((with_reducible refine AW.cond_true ?_ ?_); · rfl) | ((with_reducible refine AW.cond_false ?_ ?_); · rfl) | simp (maxSteps := 3000000) (maxDischargeDepth := 12) only [push_cast,appendX,reduceIte,reduceCtorEq,Nat.reduceSub,Nat.reduceAdd,Nat.reduceMul,Nat.reduceLT,Nat.reduceLeDiff,Nat.reduceEqDiff,Nat.reduceBEq,Int.reduceToNat,Int.reduceLT,Int.reduceLE,Int.reduceEq,Int.reduceNeg,Try.results21,dcml,dci,dci2,dci0,dcel,dcw,dcv,dcmo,xt6.2,xt6.ltT,xt6.leT,dck,dck2,dck0,dcwk,dcey,dcez,dcy2,dcy0,↓dnapp,xt5.2,xt5.ltT,xt5.leT])
          refine ⟨out.length + 1 - (k + 1), by omega, k + 1, d5, true, M ++ [y], rfl, hk, by simpa [eI] using hh5, by simp; omega, hnew5, xt5, ?_, by (simp only [push_cast, TellsL, tells_any, tells_refl])⟩
          rw [hins, hdk]; simp
        | false =>
          have hM : M.length = k := hM
          by_cases hlt2 : x.f1 < z.f1
          · have dcl : decide (x.f1 < z.f1) = true := decide_eq_true hlt2
            obtain ⟨d5, σ5, dnapp, hh5, hnew5, xt5, xt7⟩ := Hold.app1x (ty := 23) (x := [.sc (.int .i64 (i : Int))]) (σ0 := σ) (σ := σ6) hh hnew xt6 rfl rfl (by decide) rfl (by simp; omega)
            obtain ⟨d8, σ8, dnapp8, hh8, hnew8, xt8, xt9⟩ := Hold.app1x (ty := 23) (x := [.sc (.int .i64 (y : Int))]) (σ0 := σ) (σ := σ5) hh5 hnew5 xt5 rfl rfl (by decide) rfl (by simp; omega)
            clear xt7 xt9
            repeat (first | (with_reducible refine AW.seq ?_) | (with_reducible refine AW.block ?_) | (with_reducible refine AW.skip ?_) | (with_reducible refine AW.ret ?_) | (with_reducible refine AW.exit ?_) | (with_reducible refine AW.reg hT ?_) | ((with_reducible show AW _ (.region 11 _ _) _ _ _); (with_reducible refine AW.drawn (id := 11) hT [0,1,2,3,4,5,6,7,8,9,10,11,12,13,14,15,16,17] [[],[0],[0,1],[0,1,2],[0,1,2],[0,1,2],[0,1,2,4,5],[0,1,2,4,5,6],[0,1,2,3,4,5,6,7],[0,1,2,3,4,5,6,7,8],[0,1,2,3,4,5,6,7,8,9],[0,1,2],[0,1,2],[0,1,2,11,12],[0,1,2,11,12,13],[0,1,2,11,12,13,14],[0,1,2,3,4,5,6,7,8,9,10,11,12,13,14,15],[0,1,2,3,4,5,6,7,8,9,10,11,12,13,14,15,16]] mix (by kernel_rfl) ?_)) | ((with_reducible show DLeft _ _ _ _ (_ :: _) _ _ _ _); (with_reducible apply DLeft.step hT); (case hoi => ((simp only [List.getElem?_toArray,List.getElem?_cons_zero,List.getElem?_cons_succ]); with_reducible rfl)); (case hg => rfl); (case hk => rfl); (case hr => ((try simp (maxSteps := 3000000) (maxDischargeDepth := 12) only [push_cast,appendX,reduceIte,reduceCtorEq,Nat.reduceSub,Nat.reduceAdd,Nat.reduceMul,Nat.reduceLT,Nat.reduceLeDiff,Nat.reduceEqDiff,Nat.reduceBEq,Int.reduceToNat,Int.reduceLT,Int.reduceLE,Int.reduceEq,Int.reduceNeg,Try.results21,dcml,dci,dci2,dci0,dcel,dcw,dcv,dcmo,xt6.2,xt6.ltT,xt6.leT,dck,dck2,dck0,dcwk,dcey,dcez,dcy2,dcy0,dcl,↓dnapp,xt5.2,xt5.ltT,xt5.leT,↓dnapp8,xt8.2,xt8.ltT,xt8.leT]); with_reducible rfl))) | ((with_reducible refine AW.cond_true ?_ ?_); · rfl) | ((with_reducible refine AW.cond_false ?_ ?_); · rfl) | simp (maxSteps := 3000000) (maxDischargeDepth := 12) only [push_cast,appendX,reduceIte,reduceCtorEq,Nat.reduceSub,Nat.reduceAdd,Nat.reduceMul,Nat.reduceLT,Nat.reduceLeDiff,Nat.reduceEqDiff,Nat.reduceBEq,Int.reduceToNat,Int.reduceLT,Int.reduceLE,Int.reduceEq,Int.reduceNeg,Try.results21,dcml,dci,dci2,dci0,dcel,dcw,dcv,dcmo,xt6.2,xt6.ltT,xt6.leT,dck,dck2,dck0,dcwk,dcey,dcez,dcy2,dcy0,dcl,↓dnapp,xt5.2,xt5.ltT,xt5.leT,↓dnapp8,xt8.2,xt8.ltT,xt8.leT])
            refine ⟨out.length + 1 - (k + 1), by omega, k + 1, d8, true, M ++ [i, y], rfl, hk, by simpa [eI] using hh8, by simp; omega, hnew8, xt8, ?_, by (simp only [push_cast, TellsL, tells_any, tells_refl])⟩
            rw [hins, hdk, insR, hkx, hkz]; simp [hlt2]
          · have dcl : decide (x.f1 < z.f1) = false := decide_eq_false hlt2
            obtain ⟨d5, σ5, dnapp, hh5, hnew5, xt5, xt7⟩ := Hold.app1x (ty := 23) (x := [.sc (.int .i64 (y : Int))]) (σ0 := σ) (σ := σ6) hh hnew xt6 rfl rfl (by decide) rfl (by simp; omega)
            clear xt7
            repeat (first | (with_reducible refine AW.seq ?_) | (with_reducible refine AW.block ?_) | (with_reducible refine AW.skip ?_) | (with_reducible refine AW.ret ?_) | (with_reducible refine AW.exit ?_) | (with_reducible refine AW.reg hT ?_) | ((with_reducible show AW _ (.region 11 _ _) _ _ _); (with_reducible refine AW.drawn (id := 11) hT [0,1,2,3,4,5,6,7,8,9,10,11,12,13,14,15,16,17] [[],[0],[0,1],[0,1,2],[0,1,2],[0,1,2],[0,1,2,4,5],[0,1,2,4,5,6],[0,1,2,3,4,5,6,7],[0,1,2,3,4,5,6,7,8],[0,1,2,3,4,5,6,7,8,9],[0,1,2],[0,1,2],[0,1,2,11,12],[0,1,2,11,12,13],[0,1,2,11,12,13,14],[0,1,2,3,4,5,6,7,8,9,10,11,12,13,14,15],[0,1,2,3,4,5,6,7,8,9,10,11,12,13,14,15,16]] mix (by kernel_rfl) ?_)) | ((with_reducible show DLeft _ _ _ _ (_ :: _) _ _ _ _); (with_reducible apply DLeft.step hT); (case hoi => ((simp only [List.getElem?_toArray,List.getElem?_cons_zero,List.getElem?_cons_succ]); with_reducible rfl)); (case hg => rfl); (case hk => rfl); (case hr => ((try simp (maxSteps := 3000000) (maxDischargeDepth := 12) only [push_cast,appendX,reduceIte,reduceCtorEq,Nat.reduceSub,Nat.reduceAdd,Nat.reduceMul,Nat.reduceLT,Nat.reduceLeDiff,Nat.reduceEqDiff,Nat.reduceBEq,Int.reduceToNat,Int.reduceLT,Int.reduceLE,Int.reduceEq,Int.reduceNeg,Try.results21,dcml,dci,dci2,dci0,dcel,dcw,dcv,dcmo,xt6.2,xt6.ltT,xt6.leT,dck,dck2,dck0,dcwk,dcey,dcez,dcy2,dcy0,dcl,↓dnapp,xt5.2,xt5.ltT,xt5.leT]); with_reducible rfl))) | ((with_reducible refine AW.cond_true ?_ ?_); · rfl) | ((with_reducible refine AW.cond_false ?_ ?_); · rfl) | simp (maxSteps := 3000000) (maxDischargeDepth := 12) only [push_cast,appendX,reduceIte,reduceCtorEq,Nat.reduceSub,Nat.reduceAdd,Nat.reduceMul,Nat.reduceLT,Nat.reduceLeDiff,Nat.reduceEqDiff,Nat.reduceBEq,Int.reduceToNat,Int.reduceLT,Int.reduceLE,Int.reduceEq,Int.reduceNeg,Try.results21,dcml,dci,dci2,dci0,dcel,dcw,dcv,dcmo,xt6.2,xt6.ltT,xt6.leT,dck,dck2,dck0,dcwk,dcey,dcez,dcy2,dcy0,dcl,↓dnapp,xt5.2,xt5.ltT,xt5.leT])
            refine ⟨out.length + 1 - (k + 1), by omega, k + 1, d5, false, M ++ [y], rfl, hk, by simpa [eI] using hh5, by simp; omega, hnew5, xt5, ?_, by (simp only [push_cast, TellsL, tells_any, tells_refl])⟩
            rw [hins, hdk, insR, hkx, hkz]; simp [hlt2]
      · have dck : decide ((k : Int) < (out.length : Int)) = false := decide_eq_false (by omega)
        have hdk : out.drop k = [] := List.drop_eq_nil_of_le (by omega)
        rw [hdk] at hins
        cases b with
        | true =>
          have hM : M.length = k + 1 := hM
          repeat (first | (with_reducible refine AW.seq ?_) | (with_reducible refine AW.block ?_) | (with_reducible refine AW.skip ?_) | (with_reducible refine AW.ret ?_) | (with_reducible refine AW.exit ?_) | (with_reducible refine AW.reg hT ?_) | ((with_reducible show AW _ (.region 11 _ _) _ _ _); (with_reducible refine AW.drawn (id := 11) hT [0,1,2,3,4,5,6,7,8,9,10,11,12,13,14,15,16,17] [[],[0],[0,1],[0,1,2],[0,1,2],[0,1,2],[0,1,2,4,5],[0,1,2,4,5,6],[0,1,2,3,4,5,6,7],[0,1,2,3,4,5,6,7,8],[0,1,2,3,4,5,6,7,8,9],[0,1,2],[0,1,2],[0,1,2,11,12],[0,1,2,11,12,13],[0,1,2,11,12,13,14],[0,1,2,3,4,5,6,7,8,9,10,11,12,13,14,15],[0,1,2,3,4,5,6,7,8,9,10,11,12,13,14,15,16]] mix (by kernel_rfl) ?_)) | ((with_reducible show DLeft _ _ _ _ (_ :: _) _ _ _ _); (with_reducible apply DLeft.step hT); (case hoi => ((simp only [List.getElem?_toArray,List.getElem?_cons_zero,List.getElem?_cons_succ]); with_reducible rfl)); (case hg => rfl); (case hk => rfl); (case hr => ((try simp (maxSteps := 3000000) (maxDischargeDepth := 12) only [push_cast,appendX,reduceIte,reduceCtorEq,Nat.reduceSub,Nat.reduceAdd,Nat.reduceMul,Nat.reduceLT,Nat.reduceLeDiff,Nat.reduceEqDiff,Nat.reduceBEq,Int.reduceToNat,Int.reduceLT,Int.reduceLE,Int.reduceEq,Int.reduceNeg,Try.results21,dcml,dci,dci2,dci0,dcel,dcw,dcv,dcmo,xt6.2,xt6.ltT,xt6.leT,dck]); with_reducible rfl))) | ((with_reducible refine AW.cond_true ?_ ?_); · rfl) | ((with_reducible refine AW.cond_false ?_ ?_); · rfl) | simp (maxSteps := 3000000) (maxDischargeDepth := 12) only [push_cast,appendX,reduceIte,reduceCtorEq,Nat.reduceSub,Nat.reduceAdd,Nat.reduceMul,Nat.reduceLT,Nat.reduceLeDiff,Nat.reduceEqDiff,Nat.reduceBEq,Int.reduceToNat,Int.reduceLT,Int.reduceLE,Int.reduceEq,Int.reduceNeg,Try.results21,dcml,dci,dci2,dci0,dcel,dcw,dcv,dcmo,xt6.2,xt6.ltT,xt6.leT,dck])
          exact ⟨l.length + 1 - (i + 1), by omega, i + 1, e, rfl, hi, by rw [hou, hins]; simpa using hh, hnew, xt6, by (simp only [push_cast, TellsL, tells_any, tells_refl])⟩
        | false =>
          have hM : M.length = k := hM
          obtain ⟨d5, σ5, dnapp, hh5, hnew5, xt5, xt7⟩ := Hold.app1x (ty := 23) (x := [.sc (.int .i64 (i : Int))]) (σ0 := σ) (σ := σ6) hh hnew xt6 rfl rfl (by decide) rfl (by simp; omega)
          clear xt7
          repeat (first | (with_reducible refine AW.seq ?_) | (with_reducible refine AW.block ?_) | (with_reducible refine AW.skip ?_) | (with_reducible refine AW.ret ?_) | (with_reducible refine AW.exit ?_) | (with_reducible refine AW.reg hT ?_) | ((with_reducible show AW _ (.region 11 _ _) _ _ _); (with_reducible refine AW.drawn (id := 11) hT [0,1,2,3,4,5,6,7,8,9,10,11,12,13,14,15,16,17] [[],[0],[0,1],[0,1,2],[0,1,2],[0,1,2],[0,1,2,4,5],[0,1,2,4,5,6],[0,1,2,3,4,5,6,7],[0,1,2,3,4,5,6,7,8],[0,1,2,3,4,5,6,7,8,9],[0,1,2],[0,1,2],[0,1,2,11,12],[0,1,2,11,12,13],[0,1,2,11,12,13,14],[0,1,2,3,4,5,6,7,8,9,10,11,12,13,14,15],[0,1,2,3,4,5,6,7,8,9,10,11,12,13,14,15,16]] mix (by kernel_rfl) ?_)) | ((with_reducible show DLeft _ _ _ _ (_ :: _) _ _ _ _); (with_reducible apply DLeft.step hT); (case hoi => ((simp only [List.getElem?_toArray,List.getElem?_cons_zero,List.getElem?_cons_succ]); with_reducible rfl)); (case hg => rfl); (case hk => rfl); (case hr => ((try simp (maxSteps := 3000000) (maxDischargeDepth := 12) only [push_cast,appendX,reduceIte,reduceCtorEq,Nat.reduceSub,Nat.reduceAdd,Nat.reduceMul,Nat.reduceLT,Nat.reduceLeDiff,Nat.reduceEqDiff,Nat.reduceBEq,Int.reduceToNat,Int.reduceLT,Int.reduceLE,Int.reduceEq,Int.reduceNeg,Try.results21,dcml,dci,dci2,dci0,dcel,dcw,dcv,dcmo,xt6.2,xt6.ltT,xt6.leT,dck,↓dnapp,xt5.2,xt5.ltT,xt5.leT]); with_reducible rfl))) | ((with_reducible refine AW.cond_true ?_ ?_); · rfl) | ((with_reducible refine AW.cond_false ?_ ?_); · rfl) | simp (maxSteps := 3000000) (maxDischargeDepth := 12) only [push_cast,appendX,reduceIte,reduceCtorEq,Nat.reduceSub,Nat.reduceAdd,Nat.reduceMul,Nat.reduceLT,Nat.reduceLeDiff,Nat.reduceEqDiff,Nat.reduceBEq,Int.reduceToNat,Int.reduceLT,Int.reduceLE,Int.reduceEq,Int.reduceNeg,Try.results21,dcml,dci,dci2,dci0,dcel,dcw,dcv,dcmo,xt6.2,xt6.ltT,xt6.leT,dck,↓dnapp,xt5.2,xt5.ltT,xt5.leT])
          exact ⟨l.length + 1 - (i + 1), by omega, i + 1, d5, rfl, hi, by rw [hou, hins]; simpa [insR, eI] using hh5, hnew5, xt5, by (simp only [push_cast, TellsL, tells_any, tells_refl])⟩
    · have dcv : (x.f0 == v) = false := by simpa using hv
      have hou : roI' l v (i + 1) = roI' l v i := by rw [roI', hx]; simp [hv]
      repeat (first | (with_reducible refine AW.seq ?_) | (with_reducible refine AW.block ?_) | (with_reducible refine AW.skip ?_) | (with_reducible refine AW.ret ?_) | (with_reducible refine AW.exit ?_) | (with_reducible refine AW.reg hT ?_) | ((with_reducible show AW _ (.region 11 _ _) _ _ _); (with_reducible refine AW.drawn (id := 11) hT [0,1,2,3,4,5,6,7,8,9,10,11,12,13,14,15,16,17] [[],[0],[0,1],[0,1,2],[0,1,2],[0,1,2],[0,1,2,4,5],[0,1,2,4,5,6],[0,1,2,3,4,5,6,7],[0,1,2,3,4,5,6,7,8],[0,1,2,3,4,5,6,7,8,9],[0,1,2],[0,1,2],[0,1,2,11,12],[0,1,2,11,12,13],[0,1,2,11,12,13,14],[0,1,2,3,4,5,6,7,8,9,10,11,12,13,14,15],[0,1,2,3,4,5,6,7,8,9,10,11,12,13,14,15,16]] mix (by kernel_rfl) ?_)) | ((with_reducible show DLeft _ _ _ _ (_ :: _) _ _ _ _); (with_reducible apply DLeft.step hT); (case hoi => ((simp only [List.getElem?_toArray,List.getElem?_cons_zero,List.getElem?_cons_succ]); with_reducible rfl)); (case hg => rfl); (case hk => rfl); (case hr => ((try simp (maxSteps := 3000000) (maxDischargeDepth := 12) only [push_cast,appendX,reduceIte,reduceCtorEq,Nat.reduceSub,Nat.reduceAdd,Nat.reduceMul,Nat.reduceLT,Nat.reduceLeDiff,Nat.reduceEqDiff,Nat.reduceBEq,Int.reduceToNat,Int.reduceLT,Int.reduceLE,Int.reduceEq,Int.reduceNeg,Try.results21,dcml,dci,dci2,dci0,dcel,dcw,dcv]); with_reducible rfl))) | ((with_reducible refine AW.cond_true ?_ ?_); · rfl) | ((with_reducible refine AW.cond_false ?_ ?_); · rfl) | simp (maxSteps := 3000000) (maxDischargeDepth := 12) only [push_cast,appendX,reduceIte,reduceCtorEq,Nat.reduceSub,Nat.reduceAdd,Nat.reduceMul,Nat.reduceLT,Nat.reduceLeDiff,Nat.reduceEqDiff,Nat.reduceBEq,Int.reduceToNat,Int.reduceLT,Int.reduceLE,Int.reduceEq,Int.reduceNeg,Try.results21,dcml,dci,dci2,dci0,dcel,dcw,dcv])
      exact ⟨l.length + 1 - (i + 1), by omega, i + 1, d, rfl, hi, by rw [hou]; exact hh, hnew, xt3, by (simp only [push_cast, TellsL, tells_any, tells_refl])⟩
  · have dci : decide ((i : Int) < (l.length : Int)) = false := decide_eq_false (by omega)
    have he : i = l.length := by omega
    subst he
    have dncl := hh.cells
    have dnlf := hh.leaf
    repeat (first | (with_reducible refine AW.seq ?_) | (with_reducible refine AW.block ?_) | (with_reducible refine AW.skip ?_) | (with_reducible refine AW.ret ?_) | (with_reducible refine AW.exit ?_) | (with_reducible refine AW.reg hT ?_) | ((with_reducible show AW _ (.region 11 _ _) _ _ _); (with_reducible refine AW.drawn (id := 11) hT [0,1,2,3,4,5,6,7,8,9,10,11,12,13,14,15,16,17] [[],[0],[0,1],[0,1,2],[0,1,2],[0,1,2],[0,1,2,4,5],[0,1,2,4,5,6],[0,1,2,3,4,5,6,7],[0,1,2,3,4,5,6,7,8],[0,1,2,3,4,5,6,7,8,9],[0,1,2],[0,1,2],[0,1,2,11,12],[0,1,2,11,12,13],[0,1,2,11,12,13,14],[0,1,2,3,4,5,6,7,8,9,10,11,12,13,14,15],[0,1,2,3,4,5,6,7,8,9,10,11,12,13,14,15,16]] mix (by kernel_rfl) ?_)) | ((with_reducible show DLeft _ _ _ _ (_ :: _) _ _ _ _); (with_reducible apply DLeft.step hT); (case hoi => ((simp only [List.getElem?_toArray,List.getElem?_cons_zero,List.getElem?_cons_succ]); with_reducible rfl)); (case hg => rfl); (case hk => rfl); (case hr => ((try simp (maxSteps := 3000000) (maxDischargeDepth := 12) only [push_cast,appendX,reduceIte,reduceCtorEq,Nat.reduceSub,Nat.reduceAdd,Nat.reduceMul,Nat.reduceLT,Nat.reduceLeDiff,Nat.reduceEqDiff,Nat.reduceBEq,Int.reduceToNat,Int.reduceLT,Int.reduceLE,Int.reduceEq,Int.reduceNeg,Try.results21,dcml,dci,↓dncl,↓dnlf]); with_reducible rfl))) | ((with_reducible refine AW.cond_true ?_ ?_); · rfl) | ((with_reducible refine AW.cond_false ?_ ?_); · rfl) | simp (maxSteps := 3000000) (maxDischargeDepth := 12) only [push_cast,appendX,reduceIte,reduceCtorEq,Nat.reduceSub,Nat.reduceAdd,Nat.reduceMul,Nat.reduceLT,Nat.reduceLeDiff,Nat.reduceEqDiff,Nat.reduceBEq,Int.reduceToNat,Int.reduceLT,Int.reduceLE,Int.reduceEq,Int.reduceNeg,Try.results21,dcml,dci,↓dncl,↓dnlf])
    exact ⟨hh, hnew, xt3⟩
def hwI (r : List Int) (x : Int) (d : DV) (σ0 : Heap) (m : Nat) (ts : List DV) (σ : Heap) : Prop := ∃ i, m = r.length + 1 - i ∧ i ≤ r.length ∧ x ∉ r.take i ∧ σ = σ0 ∧ TellsL ts (d :: .sc (.int .i64 x) :: .any :: .any :: .any :: .sc (.int .i64 i) :: .any :: .any :: .any :: .any :: .any :: .any :: .any :: .any :: .any :: .any :: .any :: .any :: [])
/-- Has, of a row that is still written. -/
theorem hasrow_ok (σ : Heap) (r : List Int) (x : Int) (C : List (List DV)) {t : Nat} (m0 n : Nat) (hn : n = r.length) (hm : m0 = r.length + C.length) (gt : σ.get t = some ⟨r.map eZ' ++ C, 3, true⟩) (hl : r.length ≤ 1000000) : ACalls Try.prog 24 [.sl t 0 n m0, .sc (.int .i64 x)] σ (fun y σ' => y = .sc (.bool (decide (x ∈ r))) ∧ σ' = σ) := by
  have dcfl : (r.map eZ' ++ C).length = m0 := by simp [hm]
  subst hn
  refine ACalls.code hT Try.func24 rfl ?_
  simp only [Try.ntmps24, List.length_cons, List.length_nil, Nat.reduceSub, Nat.reduceAdd, List.replicate, List.cons_append, List.nil_append]
  repeat (first | (with_reducible refine AW.seq ?_) | (with_reducible refine AW.block ?_) | (with_reducible refine AW.skip ?_) | (with_reducible refine AW.ret ?_) | (with_reducible refine AW.exit ?_) | (with_reducible refine AW.reg hT ?_) | ((with_reducible refine AW.cond_true ?_ ?_); · rfl) | ((with_reducible refine AW.cond_false ?_ ?_); · rfl) | simp (maxSteps := 3000000) (maxDischargeDepth := 12) only [push_cast,appendX,reduceIte,reduceCtorEq,Nat.reduceSub,Nat.reduceAdd,Nat.reduceMul,Nat.reduceLT,Nat.reduceLeDiff,Nat.reduceEqDiff,Nat.reduceBEq,Int.reduceToNat,Int.reduceLT,Int.reduceLE,Int.reduceEq,Int.reduceNeg,Try.results24,gt,Heap.lt gt,dcfl])
  refine AW.loop (hwI r x (.sl t 0 r.length m0) σ) (m := r.length + 1) ⟨0, rfl, Nat.zero_le _, by simp, rfl, by (simp only [push_cast, TellsL, tells_any, tells_refl])⟩ ?_
  rintro m ts σ3 ⟨i, rfl, hil, hno, rfl, hts⟩
  refine AW.told hts ?_
  clear hts
  by_cases hi : i < r.length
  · have dci : decide ((i : Int) < (r.length : Int)) = true := by simp; omega
    have dci2 : ((i : Int) < (r.length : Int)) = True := by simp; omega
    have dci0 : ((0 : Int) ≤ (i : Int)) = True := by simp
    have dcel : (r.map eZ' ++ C)[i]? = some [.sc (.int .i64 r[i])] := by rw [List.getElem?_append_left (by simpa using hi), List.getElem?_map, List.getElem?_eq_getElem hi]; rfl
    have dcw : IntKind.i64.wrap ((i : Int) + 1) = (i : Int) + 1 := wrap_i64 (by omega) (by omega)
    by_cases hx : r[i] = x
    · have dcx : (r[i] == x) = true := by simpa using hx
      have hmem : x ∈ r := by rw [← hx]; exact List.getElem_mem _
      have dch : decide (x ∈ r) = true := decide_eq_true hmem
      repeat (first | (with_reducible refine AW.seq ?_) | (with_reducible refine AW.block ?_) | (with_reducible refine AW.skip ?_) | (with_reducible refine AW.ret ?_) | (with_reducible refine AW.exit ?_) | (with_reducible refine AW.reg hT ?_) | ((with_reducible refine AW.cond_true ?_ ?_); · rfl) | ((with_reducible refine AW.cond_false ?_ ?_); · rfl) | simp (maxSteps := 3000000) (maxDischargeDepth := 12) only [push_cast,appendX,reduceIte,reduceCtorEq,Nat.reduceSub,Nat.reduceAdd,Nat.reduceMul,Nat.reduceLT,Nat.reduceLeDiff,Nat.reduceEqDiff,Nat.reduceBEq,Int.reduceToNat,Int.reduceLT,Int.reduceLE,Int.reduceEq,Int.reduceNeg,Try.results24,gt,Heap.lt gt,dcfl,dci,dci2,dci0,dcel,dcw,dcx,dch])
    · have dcx : (r[i] == x) = false := by simpa using hx
      have hno' := notin_next hi hno hx
      repeat (first | (with_reducible refine AW.seq ?_) | (with_reducible refine AW.block ?_) | (with_reducible refine AW.skip ?_) | (with_reducible refine AW.ret ?_) | (with_reducible refine AW.exit ?_) | (with_reducible refine AW.reg hT ?_) | ((with_reducible refine AW.cond_true ?_ ?_); · rfl) | ((with_reducible refine AW.cond_false ?_ ?_); · rfl) | simp (maxSteps := 3000000) (maxDischargeDepth := 12) only [push_cast,appendX,reduceIte,reduceCtorEq,Nat.reduceSub,Nat.reduceAdd,Nat.reduceMul,Nat.reduceLT,Nat.reduceLeDiff,Nat.reduceEqDiff,Nat.reduceBEq,Int.reduceToNat,Int.reduceLT,Int.reduceLE,Int.reduceEq,Int.reduceNeg,Try.results24,gt,Heap.lt gt,dcfl,dci,dci2,dci0,dcel,dcw,dcx])
      exact ⟨r.length + 1 - (i + 1), by omega, i + 1, rfl, hi, hno', rfl, by (simp only [push_cast, TellsL, tells_any, tells_refl])⟩
  · have dci : decide ((i : Int) < (r.length : Int)) = false := by simp; omega
    rw [List.take_of_length_le (by omega)] at hno
    have dch : decide (x ∈ r) = false := decide_eq_false hno
    repeat (first | (with_reducible refine AW.seq ?_) | (with_reducible refine AW.block ?_) | (with_reducible refine AW.skip ?_) | (with_reducible refine AW.ret ?_) | (with_reducible refine AW.exit ?_) | (with_reducible refine AW.reg hT ?_) | ((with_reducible refine AW.cond_true ?_ ?_); · rfl) | ((with_reducible refine AW.cond_false ?_ ?_); · rfl) | simp (maxSteps := 3000000) (maxDischargeDepth := 12) only [push_cast,appendX,reduceIte,reduceCtorEq,Nat.reduceSub,Nat.reduceAdd,Nat.reduceMul,Nat.reduceLT,Nat.reduceLeDiff,Nat.reduceEqDiff,Nat.reduceBEq,Int.reduceToNat,Int.reduceLT,Int.reduceLE,Int.reduceEq,Int.reduceNeg,Try.results24,gt,Heap.lt gt,dcfl,dci,dch])
theorem hasnil_ok (σ : Heap) (x : Int) : ACalls Try.prog 24 [.sc (.slice none 0 0), .sc (.int .i64 x)] σ (fun y σ' => y = .sc (.bool false) ∧ σ' = σ) := by
  refine ACalls.code hT Try.func24 rfl ?_
  simp only [Try.ntmps24, List.length_cons, List.length_nil, Nat.reduceSub, Nat.reduceAdd, List.replicate, List.cons_append, List.nil_append]
  repeat (first | (with_reducible refine AW.seq ?_) | (with_reducible refine AW.block ?_) | (with_reducible refine AW.skip ?_) | (with_reducible refine AW.ret ?_) | (with_reducible refine AW.exit ?_) | (with_reducible refine AW.reg hT ?_) | ((with_reducible refine AW.cond_true ?_ ?_); · rfl) | ((with_reducible refine AW.cond_false ?_ ?_); · rfl) | simp (maxSteps := 3000000) (maxDischargeDepth := 12) only [push_cast,appendX,reduceIte,reduceCtorEq,Nat.reduceSub,Nat.reduceAdd,Nat.reduceMul,Nat.reduceLT,Nat.reduceLeDiff,Nat.reduceEqDiff,Nat.reduceBEq,Int.reduceToNat,Int.reduceLT,Int.reduceLE,Int.reduceEq,Int.reduceNeg,Try.results24])
  refine AW.loop (hwI [] x (.sc (.slice none 0 0)) σ) (m := 1) ⟨0, rfl, Nat.zero_le _, by simp, rfl, by (simp only [push_cast, TellsL, tells_any, tells_refl])⟩ ?_
  rintro m ts σ3 ⟨i, rfl, hil, hno, rfl, hts⟩
  refine AW.told hts ?_
  clear hts
  have hi0 : i = 0 := by simpa using hil
  subst hi0
  have dcx : decide (((0 : Nat) : Int) < 0) = false := by simp
  repeat (first | (with_reducible refine AW.seq ?_) | (with_reducible refine AW.block ?_) | (with_reducible refine AW.skip ?_) | (with_reducible refine AW.ret ?_) | (with_reducible refine AW.exit ?_) | (with_reducible refine AW.reg hT ?_) | ((with_reducible refine AW.cond_true ?_ ?_); · rfl) | ((with_reducible refine AW.cond_false ?_ ?_); · rfl) | simp (maxSteps := 3000000) (maxDischargeDepth := 12) only [push_cast,appendX,reduceIte,reduceCtorEq,Nat.reduceSub,Nat.reduceAdd,Nat.reduceMul,Nat.reduceLT,Nat.reduceLeDiff,Nat.reduceEqDiff,Nat.reduceBEq,Int.reduceToNat,Int.reduceLT,Int.reduceLE,Int.reduceEq,Int.reduceNeg,Try.results24,dcx])
theorem hashold_ok (σ : Heap) {d : DV} (r : List Int) (x : Int) (hh : Hold σ d 3 (r.map eZ')) (hl : r.length ≤ 1000000) : ACalls Try.prog 24 [d, .sc (.int .i64 x)] σ (fun y σ' => y = .sc (.bool (decide (x ∈ r))) ∧ σ' = σ) := by
  rcases hh with ⟨rfl, he⟩ | ⟨t, full, rfl, gtt, hle, htk⟩
  · have : r = [] := by simpa using he
    subst this
    refine (hasnil_ok σ x).mono ?_
    rintro y σ' ⟨rfl, rfl⟩
    exact ⟨by simp, rfl⟩
  · rw [List.length_map] at htk hle
    have hfull : full = r.map eZ' ++ full.drop r.length := by
      conv => lhs; rw [← List.take_append_drop r.length full, htk]
    rw [List.length_map]
    exact hasrow_ok σ r x (full.drop r.length) full.length r.length rfl (by rw [List.length_drop]; omega) (by rw [gtt, ← hfull]) hl
/-- A number among others, in order. -/
theorem ins_mid {P1 P2 : List Int} {x : Int} (hP : (P1 ++ P2).Pairwise (· ≤ ·)) (h2 : ∀ y ∈ P2, x < y) (h1 : ∀ y, P1.getLast? = some y → y ≤ x) : (P1 ++ x :: P2).Pairwise (· ≤ ·) := by
  rw [List.pairwise_append] at hP ⊢
  obtain ⟨p1, p2, p3⟩ := hP
  have h3 : ∀ y ∈ P1, y ≤ x := by
    intro y hy
    rcases List.eq_nil_or_concat P1 with rfl | ⟨P, z, rfl⟩
    · cases hy
    · have hz := h1 z (by simp)
      rw [List.concat_eq_append] at hy p1
      rcases List.mem_append.1 hy with hy | hy
      · rw [List.pairwise_append] at p1
        have := p1.2.2 y hy z (by simp)
        omega
      · rw [List.mem_singleton.1 hy]; exact hz
  refine ⟨p1, List.pairwise_cons.2 ⟨fun y hy => by have := h2 y hy; omega, p2⟩, fun a ha b hb => ?_⟩
  rcases List.mem_cons.1 hb with rfl | hb
  · exact h3 a ha
  · exact p3 a ha b hb
theorem midZ_get (L R : List Int) (C : List (List DV)) (x : Int) (i : Nat) (h : i = L.length) : ((L ++ x :: R).map eZ' ++ C)[i]? = some [.sc (.int .i64 x)] := by
  subst h; simp [eZ']
theorem midZ_swap (L R : List Int) (C : List (List DV)) (x y : Int) (i j : Nat) (hi : i = L.length) (hj : j = L.length + 1) : (((L ++ y :: x :: R).map eZ' ++ C).set j (eZ' y)).set i (eZ' x) = (L ++ x :: y :: R).map eZ' ++ C := by
  subst hi; subst hj
  induction L with
  | nil => simp
  | cons z L ih => simp
def riI (s : List Int) (σ0 : Heap) (m : Nat) (ts : List DV) (σ : Heap) : Prop := ∃ (i : Nat) (d : DV) (P : List Int), m = s.length + 1 - i ∧ i ≤ s.length ∧ P.Perm (s.take i) ∧ P.Pairwise (· ≤ ·) ∧ Hold σ d 3 (P.map eZ') ∧ (∀ p ∈ tOf d, σ0.n ≤ p) ∧ Ext [] σ0 σ ∧ TellsL ts (.imm (s.map eZ) :: .any :: .any :: d :: .sc (.int .i64 i) :: .any :: .any :: .any :: .any :: .any :: .any :: .any :: .any :: .any :: .any :: .any :: .any :: .any :: .any :: .any :: .any :: .any :: .any :: .any :: .any :: .any :: .any :: .any :: .any :: .any :: .any :: .any :: .any :: .any :: .any :: .any :: .any :: .any :: .any :: .any :: .any :: .any :: .any :: .any :: .any :: .any :: .any :: .any :: .any :: .any :: .any :: .any :: .any :: .any :: .any :: .any :: .any :: [])
def riJ (s P : List Int) (i : Nat) (x : Int) (t n m0 : Nat) (C : List (List DV)) (σ0 : Heap) (m : Nat) (ts : List DV) (σ : Heap) : Prop := ∃ P1 P2 : List Int, m = P1.length ∧ P = P1 ++ P2 ∧ (∀ y ∈ P2, x < y) ∧ σ.get t = some ⟨(P1 ++ x :: P2).map eZ' ++ C, 3, true⟩ ∧ σ0.n ≤ t ∧ Ext [] σ0 σ ∧ TellsL ts (.imm (s.map eZ) :: .any :: .any :: .sl t 0 n m0 :: .sc (.int .i64 i) :: .sc (.int .i64 P1.length) :: .any :: .any :: .any :: .any :: .any :: .any :: .any :: .any :: .any :: .any :: .any :: .any :: .any :: .any :: .any :: .any :: .any :: .any :: .any :: .any :: .any :: .any :: .any :: .any :: .any :: .any :: .any :: .any :: .any :: .any :: .any :: .any :: .any :: .any :: .any :: .any :: .any :: .any :: .any :: .any :: .any :: .any :: .any :: .any :: .any :: .any :: .any :: .any :: .any :: .any :: .any :: [])
theorem rising_ok (σ : Heap) (s : List Int) (hl : s.length ≤ 1000000) : ACalls Try.prog 34 [.imm (s.map eZ)] σ (fun y σ' => ∃ P : List Int, (P.Perm s ∧ P.Pairwise (· ≤ ·)) ∧ y = .imm (P.map eZ) ∧ Ext [] σ σ') := by
  have dcml : (s.map eZ).length = s.length := by simp
  refine toImmE (e := 3) ?_
  show ACalls Try.prog 34 [.imm (s.map eZ)] σ (fun x σ' => ∃ P : List Int, (P.Perm s ∧ P.Pairwise (· ≤ ·)) ∧ Hold σ' x 3 (P.map eZ') ∧ (∀ q ∈ tOf x, σ.n ≤ q) ∧ Ext [] σ σ')
  refine ACalls.code hT Try.func34 rfl ?_
  simp only [Try.ntmps34, List.length_cons, List.length_nil, Nat.reduceSub, Nat.reduceAdd, List.replicate, List.cons_append, List.nil_append]
  repeat (first | (with_reducible refine AW.seq ?_) | (with_reducible refine AW.block ?_) | (with_reducible refine AW.skip ?_) | (with_reducible refine AW.ret ?_) | (with_reducible refine AW.exit ?_) | (with_reducible refine AW.reg hT ?_) | ((with_reducible show AW _ (.region 7 _ _) _ _ _); (with_reducible refine AW.drawn (id := 7) hT [0,1,2,3,4,5,6,7,8,9,10,11,12,13] [[],[0],[0,1],[0,1,2],[0,1,2],[0,1,2,4],[0,1,2,3,4,5],[0,1,2,3,4,5,6],[0,1,2],[0,1,2],[0,1,2,8,9],[0,1,2,8,9,10],[0,1,2,3,4,5,6,7,8,9,10,11],[0,1,2,3,4,5,6,7,8,9,10,11,12]] mix (by kernel_rfl) ?_)) | ((with_reducible show DLeft _ _ _ _ (_ :: _) _ _ _ _); (with_reducible apply DLeft.step hT); (case hoi => ((simp only [List.getElem?_toArray,List.getElem?_cons_zero,List.getElem?_cons_succ]); with_reducible rfl)); (case hg => rfl); (case hk => rfl); (case hr => ((try simp (maxSteps := 3000000) (maxDischargeDepth := 12) only [push_cast,appendX,reduceIte,reduceCtorEq,Nat.reduceSub,Nat.reduceAdd,Nat.reduceMul,Nat.reduceLT,Nat.reduceLeDiff,Nat.reduceEqDiff,Nat.reduceBEq,Int.reduceToNat,Int.reduceLT,Int.reduceLE,Int.reduceEq,Int.reduceNeg,Try.results34,dcml]); with_reducible rfl))) | ((with_reducible refine AW.cond_true ?_ ?_); · rfl) | ((with_reducible refine AW.cond_false ?_ ?_); · rfl) | simp (maxSteps := 3000000) (maxDischargeDepth := 12) only [push_cast,appendX,reduceIte,reduceCtorEq,Nat.reduceSub,Nat.reduceAdd,Nat.reduceMul,Nat.reduceLT,Nat.reduceLeDiff,Nat.reduceEqDiff,Nat.reduceBEq,Int.reduceToNat,Int.reduceLT,Int.reduceLE,Int.reduceEq,Int.reduceNeg,Try.results34,dcml])
  refine AW.loop (riI s σ) (m := s.length + 1) ⟨0, .sc (.slice none 0 0), [], rfl, Nat.zero_le _, by simp, by simp, Hold.nil _ _, by simp [tOf], Ext.refl _ _, by (simp only [push_cast, TellsL, tells_any, tells_refl])⟩ ?_
  rintro m ts σ3 ⟨i, d, P, rfl, hil, hP, hPs, hh, hnew, xt3, hts⟩
  refine AW.told hts ?_
  clear hts
  have hPl := hP.length_eq
  rw [List.length_take] at hPl
  by_cases hi : i < s.length
  · have dci : decide ((i : Int) < (s.length : Int)) = true := decide_eq_true (by omega)
    have dci2 : ((i : Int) < (s.length : Int)) = True := by simp; omega
    have dci0 : ((0 : Int) ≤ (i : Int)) = True := by simp
    obtain ⟨x, hx⟩ : ∃ x, s[i]? = some x := ⟨_, List.getElem?_eq_getElem hi⟩
    have dcel : (s.map eZ)[i]? = some [.sc (.int .i64 x)] := by rw [List.getElem?_map, hx]; rfl
    have dcw : IntKind.i64.wrap ((i : Int) + 1) = (i : Int) + 1 := wrap_i64 (by omega) (by omega)
    have hPx : (P ++ [x]).Perm (s.take (i + 1)) := by
      rw [List.take_add_one, hx]
      exact hP.append_right [x]
    obtain ⟨d5, σ5, dnapp, hh5, hnew5, xt5, xt6⟩ := Hold.app1x (ty := 23) (x := [.sc (.int .i64 x)]) (σ0 := σ) (σ := σ3) hh hnew xt3 rfl rfl (by decide) rfl (by simp; omega)
    clear xt6
    rcases hh5 with ⟨rfl, he⟩ | ⟨t, full, rfl, gtt, hle, htk⟩
    · simp at he
    have hlx : (P.map eZ' ++ [[DV.sc (.int .i64 x)]]).length = i + 1 := by simp; omega
    rw [hlx] at dnapp hle htk hnew5
    have hfull : full = (P ++ [x]).map eZ' ++ full.drop (i + 1) := by
      conv => lhs; rw [← List.take_append_drop (i + 1) full, htk]
      simp [eZ']
    have htn : σ.n ≤ t := hnew5 t (by simp [tOf])
    have hfl : full.length = i + 1 + (full.drop (i + 1)).length := by rw [List.length_drop]; omega
    generalize full.drop (i + 1) = C at hfull hfl
    generalize hm0 : full.length = m0 at dnapp hle hfl
    rw [hfull] at gtt
    obtain ⟨n, hn⟩ : ∃ n, n = i + 1 := ⟨_, rfl⟩
    rw [← hn] at dnapp
    have dcn1 : IntKind.i64.wrap ((n : Int) - 1) = (P.length : Int) := by rw [wrap_i64 (by omega) (by omega)]; omega
    repeat (first | (with_reducible refine AW.seq ?_) | (with_reducible refine AW.block ?_) | (with_reducible refine AW.skip ?_) | (with_reducible refine AW.ret ?_) | (with_reducible refine AW.exit ?_) | (with_reducible refine AW.reg hT ?_) | ((with_reducible show AW _ (.region 7 _ _) _ _ _); (with_reducible refine AW.drawn (id := 7) hT [0,1,2,3,4,5,6,7,8,9,10,11,12,13] [[],[0],[0,1],[0,1,2],[0,1,2],[0,1,2,4],[0,1,2,3,4,5],[0,1,2,3,4,5,6],[0,1,2],[0,1,2],[0,1,2,8,9],[0,1,2,8,9,10],[0,1,2,3,4,5,6,7,8,9,10,11],[0,1,2,3,4,5,6,7,8,9,10,11,12]] mix (by kernel_rfl) ?_)) | ((with_reducible show DLeft _ _ _ _ (_ :: _) _ _ _ _); (with_reducible apply DLeft.step hT); (case hoi => ((simp only [List.getElem?_toArray,List.getElem?_cons_zero,List.getElem?_cons_succ]); with_reducible rfl)); (case hg => rfl); (case hk => rfl); (case hr => ((try simp (maxSteps := 3000000) (maxDischargeDepth := 12) only [push_cast,appendX,reduceIte,reduceCtorEq,Nat.reduceSub,Nat.reduceAdd,Nat.reduceMul,Nat.reduceLT,Nat.reduceLeDiff,Nat.reduceEqDiff,Nat.reduceBEq,Int.reduceToNat,Int.reduceLT,Int.reduceLE,Int.reduceEq,Int.reduceNeg,Try.results34,dcml,xt3.2,xt3.ltT,xt3.leT,dci,dci2,dci0,dcel,dcw,↓dnapp,xt5.2,xt5.ltT,xt5.leT,dcn1]); with_reducible rfl))) | ((with_reducible refine AW.cond_true ?_ ?_); · rfl) | ((with_reducible refine AW.cond_false ?_ ?_); · rfl) | simp (maxSteps := 3000000) (maxDischargeDepth := 12) only [push_cast,appendX,reduceIte,reduceCtorEq,Nat.reduceSub,Nat.reduceAdd,Nat.reduceMul,Nat.reduceLT,Nat.reduceLeDiff,Nat.reduceEqDiff,Nat.reduceBEq,Int.reduceToNat,Int.reduceLT,Int.reduceLE,Int.reduceEq,Int.reduceNeg,Try.results34,dcml,xt3.2,xt3.ltT,xt3.leT,dci,dci2,dci0,dcel,dcw,↓dnapp,xt5.2,xt5.ltT,xt5.leT,dcn1])
    refine AW.loop (riJ s P i x t n m0 C σ) (m := P.length) ⟨P, [], rfl, by simp, by simp, by simpa using gtt, htn, xt5, by (simp only [push_cast, TellsL, tells_any, tells_refl])⟩ ?_
    clear xt5 gtt
    rintro m ts σ7 ⟨P1, P2, rfl, hPP, h2, gt7, htn7, xt7, hts⟩
    refine AW.told hts ?_
    clear hts
    have hPPl := congrArg List.length hPP
    rw [List.length_append] at hPPl
    rcases List.eq_nil_or_concat P1 with rfl | ⟨Q, y, rfl⟩
    · have dcz : decide ((0 : Int) < (([] : List Int).length : Int)) = false := by simp
      simp only [List.nil_append] at hPP
      subst hPP
      repeat (first | (with_reducible refine AW.seq ?_) | (with_reducible refine AW.block ?_) | (with_reducible refine AW.skip ?_) | (with_reducible refine AW.ret ?_) | (with_reducible refine AW.exit ?_) | (with_reducible refine AW.reg hT ?_) | ((with_reducible show AW _ (.region 7 _ _) _ _ _); (with_reducible refine AW.drawn (id := 7) hT [0,1,2,3,4,5,6,7,8,9,10,11,12,13] [[],[0],[0,1],[0,1,2],[0,1,2],[0,1,2,4],[0,1,2,3,4,5],[0,1,2,3,4,5,6],[0,1,2],[0,1,2],[0,1,2,8,9],[0,1,2,8,9,10],[0,1,2,3,4,5,6,7,8,9,10,11],[0,1,2,3,4,5,6,7,8,9,10,11,12]] mix (by kernel_rfl) ?_)) | ((with_reducible show DLeft _ _ _ _ (_ :: _) _ _ _ _); (with_reducible apply DLeft.step hT); (case hoi => ((simp only [List.getElem?_toArray,List.getElem?_cons_zero,List.getElem?_cons_succ]); with_reducible rfl)); (case hg => rfl); (case hk => rfl); (case hr => ((try simp (maxSteps := 3000000) (maxDischargeDepth := 12) only [push_cast,appendX,reduceIte,reduceCtorEq,Nat.reduceSub,Nat.reduceAdd,Nat.reduceMul,Nat.reduceLT,Nat.reduceLeDiff,Nat.reduceEqDiff,Nat.reduceBEq,Int.reduceToNat,Int.reduceLT,Int.reduceLE,Int.reduceEq,Int.reduceNeg,Try.results34,dcml,xt3.2,xt3.ltT,xt3.leT,dci,dci2,dci0,dcel,dcw,↓dnapp,dcn1,gt7,Heap.lt gt7,xt7.2,xt7.ltT,xt7.leT,dcz]); with_reducible rfl))) | ((with_reducible refine AW.cond_true ?_ ?_); · rfl) | ((with_reducible refine AW.cond_false ?_ ?_); · rfl) | simp (maxSteps := 3000000) (maxDischargeDepth := 12) only [push_cast,appendX,reduceIte,reduceCtorEq,Nat.reduceSub,Nat.reduceAdd,Nat.reduceMul,Nat.reduceLT,Nat.reduceLeDiff,Nat.reduceEqDiff,Nat.reduceBEq,Int.reduceToNat,Int.reduceLT,Int.reduceLE,Int.reduceEq,Int.reduceNeg,Try.results34,dcml,xt3.2,xt3.ltT,xt3.leT,dci,dci2,dci0,dcel,dcw,↓dnapp,dcn1,gt7,Heap.lt gt7,xt7.2,xt7.ltT,xt7.leT,dcz])
      refine ⟨s.length + 1 - (i + 1), by omega, i + 1, .sl t 0 n m0, x :: P, rfl, hi, (List.perm_append_comm (l₁ := [x]) (l₂ := P)).trans hPx, ins_mid (P1 := []) (by simpa using hPs) h2 (by simp), .inr ⟨t, (x :: P).map eZ' ++ C, ?_, by simpa using gt7, by simp, by simp⟩, by simpa [tOf] using htn, xt7, by (simp only [push_cast, TellsL, tells_any, tells_refl])⟩
      simp; omega
    · rw [List.concat_eq_append] at hPP gt7
      have hlQ : (Q.concat y).length = Q.length + 1 := by simp
      obtain ⟨jx, hjx⟩ : ∃ jx, jx = Q.length + 1 := ⟨_, rfl⟩
      obtain ⟨jy, hjy⟩ : ∃ jy, jy = Q.length := ⟨_, rfl⟩
      have hjn : jx < n := by omega
      rw [hlQ, ← hjx] at hPPl ⊢
      have dcz : decide ((0 : Int) < (jx : Int)) = true := decide_eq_true (by omega)
      have dcz1 : ((jx : Int) < (n : Int)) = True := by simp; omega
      have dcz2 : ((0 : Int) ≤ (jx : Int)) = True := by simp
      have dcy1 : ((jy : Int) < (n : Int)) = True := by simp; omega
      have dcy2 : ((0 : Int) ≤ (jy : Int)) = True := by simp
      have dcwz : IntKind.i64.wrap ((jx : Int) - 1) = (jy : Int) := by rw [wrap_i64 (by omega) (by omega)]; omega
      obtain ⟨full2, hfull2⟩ : ∃ f, f = ((Q ++ [y]) ++ x :: P2).map eZ' ++ C := ⟨_, rfl⟩
      have e2 : (Q ++ [y]) ++ x :: P2 = Q ++ y :: x :: P2 := by simp
      have dcfx : full2[jx]? = some [.sc (.int .i64 x)] := by rw [hfull2]; exact midZ_get _ _ _ _ _ (by simp; omega)
      have dcfy : full2[jy]? = some [.sc (.int .i64 y)] := by rw [hfull2, e2]; exact midZ_get _ _ _ _ _ (by omega)
      have dcfl : full2.length = m0 := by rw [hfull2]; simp; omega
      rw [← hfull2] at gt7
      by_cases hxy : x < y
      · have dcc : decide (x < y) = true := decide_eq_true hxy
        have dcf2 : (full2.set jx [.sc (.int .i64 y)]).length = m0 := by rw [List.length_set]; exact dcfl
        have dcf3 : (full2.set jx [.sc (.int .i64 y)])[jy]? = some [.sc (.int .i64 y)] := by rw [List.getElem?_set_ne (by omega)]; exact dcfy
        have hsw := midZ_swap Q P2 C x y jy jx (by omega) (by omega)
        rw [← e2, ← hfull2] at hsw
        simp only [eZ'] at hsw
        have hlt7 := Heap.lt gt7
        repeat (first | (with_reducible refine AW.seq ?_) | (with_reducible refine AW.block ?_) | (with_reducible refine AW.skip ?_) | (with_reducible refine AW.ret ?_) | (with_reducible refine AW.exit ?_) | (with_reducible refine AW.reg hT ?_) | ((with_reducible show AW _ (.region 7 _ _) _ _ _); (with_reducible refine AW.drawn (id := 7) hT [0,1,2,3,4,5,6,7,8,9,10,11,12,13] [[],[0],[0,1],[0,1,2],[0,1,2],[0,1,2,4],[0,1,2,3,4,5],[0,1,2,3,4,5,6],[0,1,2],[0,1,2],[0,1,2,8,9],[0,1,2,8,9,10],[0,1,2,3,4,5,6,7,8,9,10,11],[0,1,2,3,4,5,6,7,8,9,10,11,12]] mix (by kernel_rfl) ?_)) | ((with_reducible show DLeft _ _ _ _ (_ :: _) _ _ _ _); (with_reducible apply DLeft.step hT); (case hoi => ((simp only [List.getElem?_toArray,List.getElem?_cons_zero,List.getElem?_cons_succ]); with_reducible rfl)); (case hg => rfl); (case hk => rfl); (case hr => ((try simp (maxSteps := 3000000) (maxDischargeDepth := 12) only [push_cast,appendX,reduceIte,reduceCtorEq,Nat.reduceSub,Nat.reduceAdd,Nat.reduceMul,Nat.reduceLT,Nat.reduceLeDiff,Nat.reduceEqDiff,Nat.reduceBEq,Int.reduceToNat,Int.reduceLT,Int.reduceLE,Int.reduceEq,Int.reduceNeg,Try.results34,dcml,xt3.2,xt3.ltT,xt3.leT,dci,dci2,dci0,dcel,dcw,↓dnapp,dcn1,gt7,Heap.lt gt7,xt7.2,xt7.ltT,xt7.leT,dcz,dcz1,dcz2,dcy1,dcy2,dcwz,dcfx,dcfy,dcfl,dcc,dcf2,dcf3]); with_reducible rfl))) | ((with_reducible refine AW.cond_true ?_ ?_); · rfl) | ((with_reducible refine AW.cond_false ?_ ?_); · rfl) | simp (maxSteps := 3000000) (maxDischargeDepth := 12) only [push_cast,appendX,reduceIte,reduceCtorEq,Nat.reduceSub,Nat.reduceAdd,Nat.reduceMul,Nat.reduceLT,Nat.reduceLeDiff,Nat.reduceEqDiff,Nat.reduceBEq,Int.reduceToNat,Int.reduceLT,Int.reduceLE,Int.reduceEq,Int.reduceNeg,Try.results34,dcml,xt3.2,xt3.ltT,xt3.leT,dci,dci2,dci0,dcel,dcw,↓dnapp,dcn1,gt7,Heap.lt gt7,xt7.2,xt7.ltT,xt7.leT,dcz,dcz1,dcz2,dcy1,dcy2,dcwz,dcfx,dcfy,dcfl,dcc,dcf2,dcf3])
        refine ⟨Q.length, by omega, Q, y :: P2, rfl, by rw [hPP]; simp, ?_, ?_, htn, Ext.set (Ext.set xt7 (.inl htn) _) (.inl htn) _, by rw [← hjy]; (simp only [push_cast, TellsL, tells_any, tells_refl])⟩
        · intro w hw
          rcases List.mem_cons.1 hw with rfl | hw
          · exact hxy
          · exact h2 w hw
        · rw [Heap.get_set (by simpa using hlt7), hsw]
      · have dcc : decide (x < y) = false := decide_eq_false hxy
        repeat (first | (with_reducible refine AW.seq ?_) | (with_reducible refine AW.block ?_) | (with_reducible refine AW.skip ?_) | (with_reducible refine AW.ret ?_) | (with_reducible refine AW.exit ?_) | (with_reducible refine AW.reg hT ?_) | ((with_reducible show AW _ (.region 7 _ _) _ _ _); (with_reducible refine AW.drawn (id := 7) hT [0,1,2,3,4,5,6,7,8,9,10,11,12,13] [[],[0],[0,1],[0,1,2],[0,1,2],[0,1,2,4],[0,1,2,3,4,5],[0,1,2,3,4,5,6],[0,1,2],[0,1,2],[0,1,2,8,9],[0,1,2,8,9,10],[0,1,2,3,4,5,6,7,8,9,10,11],[0,1,2,3,4,5,6,7,8,9,10,11,12]] mix (by kernel_rfl) ?_)) | ((with_reducible show DLeft _ _ _ _ (_ :: _) _ _ _ _); (with_reducible apply DLeft.step hT); (case hoi => ((simp only [List.getElem?_toArray,List.getElem?_cons_zero,List.getElem?_cons_succ]); with_reducible rfl)); (case hg => rfl); (case hk => rfl); (case hr => ((try simp (maxSteps := 3000000) (maxDischargeDepth := 12) only [push_cast,appendX,reduceIte,reduceCtorEq,Nat.reduceSub,Nat.reduceAdd,Nat.reduceMul,Nat.reduceLT,Nat.reduceLeDiff,Nat.reduceEqDiff,Nat.reduceBEq,Int.reduceToNat,Int.reduceLT,Int.reduceLE,Int.reduceEq,Int.reduceNeg,Try.results34,dcml,xt3.2,xt3.ltT,xt3.leT,dci,dci2,dci0,dcel,dcw,↓dnapp,dcn1,gt7,Heap.lt gt7,xt7.2,xt7.ltT,xt7.leT,dcz,dcz1,dcz2,dcy1,dcy2,dcwz,dcfx,dcfy,dcfl,dcc]); with_reducible rfl))) | ((with_reducible refine AW.cond_true ?_ ?_); · rfl) | ((with_reducible refine AW.cond_false ?_ ?_); · rfl) | simp (maxSteps := 3000000) (maxDischargeDepth := 12) only [push_cast,appendX,reduceIte,reduceCtorEq,Nat.reduceSub,Nat.reduceAdd,Nat.reduceMul,Nat.reduceLT,Nat.reduceLeDiff,Nat.reduceEqDiff,Nat.reduceBEq,Int.reduceToNat,Int.reduceLT,Int.reduceLE,Int.reduceEq,Int.reduceNeg,Try.results34,dcml,xt3.2,xt3.ltT,xt3.leT,dci,dci2,dci0,dcel,dcw,↓dnapp,dcn1,gt7,Heap.lt gt7,xt7.2,xt7.ltT,xt7.leT,dcz,dcz1,dcz2,dcy1,dcy2,dcwz,dcfx,dcfy,dcfl,dcc])
        refine ⟨s.length + 1 - (i + 1), by omega, i + 1, .sl t 0 n m0, (Q ++ [y]) ++ x :: P2, rfl, hi, ?_, ins_mid (by rw [← hPP]; exact hPs) h2 (fun w hw => by simp at hw; subst hw; omega), .inr ⟨t, full2, ?_, gt7, by rw [hfull2]; simp, by rw [hfull2]; exact List.take_left' rfl⟩, by simpa [tOf] using htn, xt7, by (simp only [push_cast, TellsL, tells_any, tells_refl])⟩
        · refine List.Perm.trans ?_ hPx
          rw [hPP, List.append_assoc (Q ++ [y])]
          exact List.Perm.append_left _ (List.perm_append_comm (l₁ := [x]) (l₂ := P2))
        · have := congrArg List.length hPP
          simp at this
          simp [dcfl]; omega
  · have dci : decide ((i : Int) < (s.length : Int)) = false := decide_eq_false (by omega)
    rw [List.take_of_length_le (by omega)] at hP
    have dncl := hh.cells
    have dnlf := hh.leaf
    repeat (first | (with_reducible refine AW.seq ?_) | (with_reducible refine AW.block ?_) | (with_reducible refine AW.skip ?_) | (with_reducible refine AW.ret ?_) | (with_reducible refine AW.exit ?_) | (with_reducible refine AW.reg hT ?_) | ((with_reducible show AW _ (.region 7 _ _) _ _ _); (with_reducible refine AW.drawn (id := 7) hT [0,1,2,3,4,5,6,7,8,9,10,11,12,13] [[],[0],[0,1],[0,1,2],[0,1,2],[0,1,2,4],[0,1,2,3,4,5],[0,1,2,3,4,5,6],[0,1,2],[0,1,2],[0,1,2,8,9],[0,1,2,8,9,10],[0,1,2,3,4,5,6,7,8,9,10,11],[0,1,2,3,4,5,6,7,8,9,10,11,12]] mix (by kernel_rfl) ?_)) | ((with_reducible show DLeft _ _ _ _ (_ :: _) _ _ _ _); (with_reducible apply DLeft.step hT); (case hoi => ((simp only [List.getElem?_toArray,List.getElem?_cons_zero,List.getElem?_cons_succ]); with_reducible rfl)); (case hg => rfl); (case hk => rfl); (case hr => ((try simp (maxSteps := 3000000) (maxDischargeDepth := 12) only [push_cast,appendX,reduceIte,reduceCtorEq,Nat.reduceSub,Nat.reduceAdd,Nat.reduceMul,Nat.reduceLT,Nat.reduceLeDiff,Nat.reduceEqDiff,Nat.reduceBEq,Int.reduceToNat,Int.reduceLT,Int.reduceLE,Int.reduceEq,Int.reduceNeg,Try.results34,dcml,xt3.2,xt3.ltT,xt3.leT,dci,↓dncl,↓dnlf]); with_reducible rfl))) | ((with_reducible refine AW.cond_true ?_ ?_); · rfl) | ((with_reducible refine AW.cond_false ?_ ?_); · rfl) | simp (maxSteps := 3000000) (maxDischargeDepth := 12) only [push_cast,appendX,reduceIte,reduceCtorEq,Nat.reduceSub,Nat.reduceAdd,Nat.reduceMul,Nat.reduceLT,Nat.reduceLeDiff,Nat.reduceEqDiff,Nat.reduceBEq,Int.reduceToNat,Int.reduceLT,Int.reduceLE,Int.reduceEq,Int.reduceNeg,Try.results34,dcml,xt3.2,xt3.ltT,xt3.leT,dci,↓dncl,↓dnlf])
    exact ⟨P, ⟨hP, hPs⟩, hh, hnew, xt3⟩
/-- A node's neighbours, each once, as they come. -/
def ndI (l : List Lk) (v : Int) : Nat → List Int
  | 0 => []
  | i + 1 => match l[i]? with
    | some x => if x.f0 = v then (if x.f1 ∈ ndI l v i then ndI l v i else ndI l v i ++ [x.f1]) else if x.f1 = v then (if x.f0 ∈ ndI l v i then ndI l v i else ndI l v i ++ [x.f0]) else ndI l v i
    | none => ndI l v i
theorem add_once {r : List Int} {x : Int} (h : r.Nodup) (hx : ¬ x ∈ r) : (r ++ [x]).Nodup := by
  rw [List.nodup_append]
  exact ⟨h, by simp, fun a ha b hb => by simp at hb; subst hb; rintro rfl; exact hx ha⟩
theorem ndI_nodup (l : List Lk) (v : Int) : ∀ i, (ndI l v i).Nodup
  | 0 => by simp [ndI]
  | i + 1 => by
    have ih := ndI_nodup l v i
    rw [ndI]
    split
    · split
      · split
        · exact ih
        · exact add_once ih (by assumption)
      · split
        · split
          · exact ih
          · exact add_once ih (by assumption)
        · exact ih
    · exact ih
theorem ndI_len (l : List Lk) (v : Int) : ∀ i, (ndI l v i).length ≤ i
  | 0 => by simp [ndI]
  | i + 1 => by
    have ih := ndI_len l v i
    rw [ndI]
    split
    · split
      · split
        · omega
        · simp; omega
      · split
        · split
          · omega
          · simp; omega
        · omega
    · omega
theorem mem_ndI (l : List Lk) (v w : Int) : ∀ i, w ∈ ndI l v i ↔ w ∈ nrI l v i
  | 0 => by simp [ndI, nrI]
  | i + 1 => by
    have ih := mem_ndI l v w i
    rw [ndI, nrI, List.mem_append, ← ih]
    cases l[i]? with
    | none => simp
    | some x =>
      simp only
      by_cases h : x.f0 = v
      · rw [if_pos h, if_pos h.symm]
        split
        · rename_i hm
          simp only [List.mem_singleton]
          exact ⟨.inl, fun h => h.elim id (fun e => by rw [e]; exact hm)⟩
        · simp
      · rw [if_neg h, if_neg (Ne.symm h)]
        by_cases h2 : x.f1 = v
        · rw [if_pos h2, if_pos h2.symm]
          split
          · rename_i hm
            simp only [List.mem_singleton]
            exact ⟨.inl, fun h => h.elim id (fun e => by rw [e]; exact hm)⟩
          · simp
        · rw [if_neg h2, if_neg (Ne.symm h2)]; simp
theorem nearA_rise (l : List Lk) (v : Int) : (nearA l v).Pairwise (· < ·) := dq_rise _ (srt_sorted _) _ (Nat.le_refl _)
theorem near_one {l : List Lk} {v : Int} {P : List Int} (hp : P.Perm (ndI l v l.length)) (hs : P.Pairwise (· ≤ ·)) : P = nearA l v := by
  have hn : P.Nodup := hp.nodup_iff.2 (ndI_nodup l v _)
  have hlt : P.Pairwise (· < ·) := (hs.and hn).imp (fun h => by omega)
  refine one_order (fun a b h k => by omega) hlt (nearA_rise l v) (fun x => ?_)
  rw [hp.mem_iff, mem_ndI]
  unfold nearA
  rw [mem_dq_all, (srt_perm _).mem_iff]
def rnI (l : List Lk) (v : Int) (σ0 : Heap) (m : Nat) (ts : List DV) (σ : Heap) : Prop := ∃ (i : Nat) (d : DV), m = l.length + 1 - i ∧ i ≤ l.length ∧ Hold σ d 3 ((ndI l v i).map eZ') ∧ (∀ p ∈ tOf d, σ0.n ≤ p) ∧ Ext [] σ0 σ ∧ TellsL ts (.imm (l.map eK) :: .sc (.int .i64 v) :: .any :: .any :: .any :: d :: .sc (.int .i64 i) :: .any :: .any :: .any :: .any :: .any :: .any :: .any :: .any :: .any :: .any :: .any :: .any :: .any :: .any :: .any :: .any :: .any :: .any :: .any :: .any :: .any :: .any :: .any :: .any :: .any :: .any :: .any :: .any :: .any :: .any :: .any :: .any :: .any :: .any :: .any :: .any :: .any :: [])
theorem rnear_ok (σ : Heap) (l : List Lk) (v : Int) (hl : l.length ≤ 1000000) : ACalls Try.prog 23 [.imm (l.map eK), .sc (.int .i64 v)] σ (fun x σ' => x = .imm ((nearA l v).map eZ) ∧ Ext [] σ σ') := by
  have dcml : (l.map eK).length = l.length := by simp
  refine ACalls.code hT Try.func23 rfl ?_
  simp only [Try.ntmps23, List.length_cons, List.length_nil, Nat.reduceSub, Nat.reduceAdd, List.replicate, List.cons_append, List.nil_append]
  repeat (first | (with_reducible refine AW.seq ?_) | (with_reducible refine AW.block ?_) | (with_reducible refine AW.skip ?_) | (with_reducible refine AW.ret ?_) | (with_reducible refine AW.exit ?_) | (with_reducible refine AW.reg hT ?_) | ((with_reducible refine AW.cond_true ?_ ?_); · rfl) | ((with_reducible refine AW.cond_false ?_ ?_); · rfl) | simp (maxSteps := 3000000) (maxDischargeDepth := 12) only [push_cast,appendX,reduceIte,reduceCtorEq,Nat.reduceSub,Nat.reduceAdd,Nat.reduceMul,Nat.reduceLT,Nat.reduceLeDiff,Nat.reduceEqDiff,Nat.reduceBEq,Int.reduceToNat,Int.reduceLT,Int.reduceLE,Int.reduceEq,Int.reduceNeg,Try.results23,dcml])
  refine AW.loop (rnI l v σ) (m := l.length + 1) ⟨0, .sc (.slice none 0 0), rfl, Nat.zero_le _, Hold.nil _ _, by simp [tOf], Ext.refl _ _, by (simp only [push_cast, TellsL, tells_any, tells_refl])⟩ ?_
  rintro m ts σ3 ⟨i, d, rfl, hil, hh, hnew, xt3, hts⟩
  refine AW.told hts ?_
  clear hts
  have hol := ndI_len l v i
  by_cases hi : i < l.length
  · have dci : decide ((i : Int) < (l.length : Int)) = true := decide_eq_true (by omega)
    have dci2 : ((i : Int) < (l.length : Int)) = True := by simp; omega
    have dci0 : ((0 : Int) ≤ (i : Int)) = True := by simp
    obtain ⟨x, hx⟩ : ∃ x, l[i]? = some x := ⟨_, List.getElem?_eq_getElem hi⟩
    have dcel : (l.map eK)[i]? = some (eK x) := by rw [List.getElem?_map, hx]; rfl
    rw [eK_eq] at dcel
    have dcw : IntKind.i64.wrap ((i : Int) + 1) = (i : Int) + 1 := wrap_i64 (by omega) (by omega)
    have hou : ndI l v (i + 1) = if x.f0 = v then (if x.f1 ∈ ndI l v i then ndI l v i else ndI l v i ++ [x.f1]) else if x.f1 = v then (if x.f0 ∈ ndI l v i then ndI l v i else ndI l v i ++ [x.f0]) else ndI l v i := by rw [ndI, hx]
    by_cases hv : x.f0 = v
    · have dcv : (x.f0 == v) = true := by simpa using hv
      rw [if_pos hv] at hou
      repeat (first | (with_reducible refine AW.seq ?_) | (with_reducible refine AW.block ?_) | (with_reducible refine AW.skip ?_) | (with_reducible refine AW.ret ?_) | (with_reducible refine AW.exit ?_) | (with_reducible refine AW.reg hT ?_) | ((with_reducible refine AW.cond_true ?_ ?_); · rfl) | ((with_reducible refine AW.cond_false ?_ ?_); · rfl) | simp (maxSteps := 3000000) (maxDischargeDepth := 12) only [push_cast,appendX,reduceIte,reduceCtorEq,Nat.reduceSub,Nat.reduceAdd,Nat.reduceMul,Nat.reduceLT,Nat.reduceLeDiff,Nat.reduceEqDiff,Nat.reduceBEq,Int.reduceToNat,Int.reduceLT,Int.reduceLE,Int.reduceEq,Int.reduceNeg,Try.results23,dcml,xt3.2,xt3.ltT,xt3.leT,dci,dci2,dci0,dcel,dcw,dcv])
      refine AOpsL.call (first := []) (cap := []) hT rfl rfl rfl fn24 rfl (ACalls.mono (hashold_ok _ (ndI l v i) x.f1 hh (by omega)) ?_)
      rintro y σ4 ⟨rfl, rfl⟩
      by_cases hm : x.f1 ∈ ndI l v i
      · have dcm : decide (x.f1 ∈ ndI l v i) = true := decide_eq_true hm
        rw [if_pos hm] at hou
        repeat (first | (with_reducible refine AW.seq ?_) | (with_reducible refine AW.block ?_) | (with_reducible refine AW.skip ?_) | (with_reducible refine AW.ret ?_) | (with_reducible refine AW.exit ?_) | (with_reducible refine AW.reg hT ?_) | ((with_reducible refine AW.cond_true ?_ ?_); · rfl) | ((with_reducible refine AW.cond_false ?_ ?_); · rfl) | simp (maxSteps := 3000000) (maxDischargeDepth := 12) only [push_cast,appendX,reduceIte,reduceCtorEq,Nat.reduceSub,Nat.reduceAdd,Nat.reduceMul,Nat.reduceLT,Nat.reduceLeDiff,Nat.reduceEqDiff,Nat.reduceBEq,Int.reduceToNat,Int.reduceLT,Int.reduceLE,Int.reduceEq,Int.reduceNeg,Try.results23,dcml,xt3.2,xt3.ltT,xt3.leT,dci,dci2,dci0,dcel,dcw,dcv,dcm])
        exact ⟨l.length + 1 - (i + 1), by omega, i + 1, d, rfl, hi, by rw [hou]; exact hh, hnew, xt3, by (simp only [push_cast, TellsL, tells_any, tells_refl])⟩
      · have dcm : decide (x.f1 ∈ ndI l v i) = false := decide_eq_false hm
        rw [if_neg hm] at hou
        obtain ⟨d5, σ5, dnapp, hh5, hnew5, xt5, xt7⟩ := Hold.app1x (ty := 23) (x := [.sc (.int .i64 x.f1)]) (σ0 := σ) (σ := σ4) hh hnew xt3 rfl rfl (by decide) rfl (by simp; omega)
        clear xt7
        repeat (first | (with_reducible refine AW.seq ?_) | (with_reducible refine AW.block ?_) | (with_reducible refine AW.skip ?_) | (with_reducible refine AW.ret ?_) | (with_reducible refine AW.exit ?_) | (with_reducible refine AW.reg hT ?_) | ((with_reducible refine AW.cond_true ?_ ?_); · rfl) | ((with_reducible refine AW.cond_false ?_ ?_); · rfl) | simp (maxSteps := 3000000) (maxDischargeDepth := 12) only [push_cast,appendX,reduceIte,reduceCtorEq,Nat.reduceSub,Nat.reduceAdd,Nat.reduceMul,Nat.reduceLT,Nat.reduceLeDiff,Nat.reduceEqDiff,Nat.reduceBEq,Int.reduceToNat,Int.reduceLT,Int.reduceLE,Int.reduceEq,Int.reduceNeg,Try.results23,dcml,xt3.2,xt3.ltT,xt3.leT,dci,dci2,dci0,dcel,dcw,dcv,dcm,↓dnapp,xt5.2,xt5.ltT,xt5.leT])
        exact ⟨l.length + 1 - (i + 1), by omega, i + 1, d5, rfl, hi, by rw [hou]; simpa [eZ'] using hh5, hnew5, xt5, by (simp only [push_cast, TellsL, tells_any, tells_refl])⟩
    · have dcv : (x.f0 == v) = false := by simpa using hv
      rw [if_neg hv] at hou
      by_cases hv2 : x.f1 = v
      · have dcv2 : (x.f1 == v) = true := by simpa using hv2
        rw [if_pos hv2] at hou
        repeat (first | (with_reducible refine AW.seq ?_) | (with_reducible refine AW.block ?_) | (with_reducible refine AW.skip ?_) | (with_reducible refine AW.ret ?_) | (with_reducible refine AW.exit ?_) | (with_reducible refine AW.reg hT ?_) | ((with_reducible refine AW.cond_true ?_ ?_); · rfl) | ((with_reducible refine AW.cond_false ?_ ?_); · rfl) | simp (maxSteps := 3000000) (maxDischargeDepth := 12) only [push_cast,appendX,reduceIte,reduceCtorEq,Nat.reduceSub,Nat.reduceAdd,Nat.reduceMul,Nat.reduceLT,Nat.reduceLeDiff,Nat.reduceEqDiff,Nat.reduceBEq,Int.reduceToNat,Int.reduceLT,Int.reduceLE,Int.reduceEq,Int.reduceNeg,Try.results23,dcml,xt3.2,xt3.ltT,xt3.leT,dci,dci2,dci0,dcel,dcw,dcv,dcv2])
        refine AOpsL.call (first := []) (cap := []) hT rfl rfl rfl fn24 rfl (ACalls.mono (hashold_ok _ (ndI l v i) x.f0 hh (by omega)) ?_)
        rintro y σ4 ⟨rfl, rfl⟩
        by_cases hm : x.f0 ∈ ndI l v i
        · have dcm : decide (x.f0 ∈ ndI l v i) = true := decide_eq_true hm
          rw [if_pos hm] at hou
          repeat (first | (with_reducible refine AW.seq ?_) | (with_reducible refine AW.block ?_) | (with_reducible refine AW.skip ?_) | (with_reducible refine AW.ret ?_) | (with_reducible refine AW.exit ?_) | (with_reducible refine AW.reg hT ?_) | ((with_reducible refine AW.cond_true ?_ ?_); · rfl) | ((with_reducible refine AW.cond_false ?_ ?_); · rfl) | simp (maxSteps := 3000000) (maxDischargeDepth := 12) only [push_cast,appendX,reduceIte,reduceCtorEq,Nat.reduceSub,Nat.reduceAdd,Nat.reduceMul,Nat.reduceLT,Nat.reduceLeDiff,Nat.reduceEqDiff,Nat.reduceBEq,Int.reduceToNat,Int.reduceLT,Int.reduceLE,Int.reduceEq,Int.reduceNeg,Try.results23,dcml,xt3.2,xt3.ltT,xt3.leT,dci,dci2,dci0,dcel,dcw,dcv,dcv2,dcm])
          exact ⟨l.length + 1 - (i + 1), by omega, i + 1, d, rfl, hi, by rw [hou]; exact hh, hnew, xt3, by (simp only [push_cast, TellsL, tells_any, tells_refl])⟩
        · have dcm : decide (x.f0 ∈ ndI l v i) = false := decide_eq_false hm
          rw [if_neg hm] at hou
          obtain ⟨d5, σ5, dnapp, hh5, hnew5, xt5, xt7⟩ := Hold.app1x (ty := 23) (x := [.sc (.int .i64 x.f0)]) (σ0 := σ) (σ := σ4) hh hnew xt3 rfl rfl (by decide) rfl (by simp; omega)
          clear xt7
          repeat (first | (with_reducible refine AW.seq ?_) | (with_reducible refine AW.block ?_) | (with_reducible refine AW.skip ?_) | (with_reducible refine AW.ret ?_) | (with_reducible refine AW.exit ?_) | (with_reducible refine AW.reg hT ?_) | ((with_reducible refine AW.cond_true ?_ ?_); · rfl) | ((with_reducible refine AW.cond_false ?_ ?_); · rfl) | simp (maxSteps := 3000000) (maxDischargeDepth := 12) only [push_cast,appendX,reduceIte,reduceCtorEq,Nat.reduceSub,Nat.reduceAdd,Nat.reduceMul,Nat.reduceLT,Nat.reduceLeDiff,Nat.reduceEqDiff,Nat.reduceBEq,Int.reduceToNat,Int.reduceLT,Int.reduceLE,Int.reduceEq,Int.reduceNeg,Try.results23,dcml,xt3.2,xt3.ltT,xt3.leT,dci,dci2,dci0,dcel,dcw,dcv,dcv2,dcm,↓dnapp,xt5.2,xt5.ltT,xt5.leT])
          exact ⟨l.length + 1 - (i + 1), by omega, i + 1, d5, rfl, hi, by rw [hou]; simpa [eZ'] using hh5, hnew5, xt5, by (simp only [push_cast, TellsL, tells_any, tells_refl])⟩
      · have dcv2 : (x.f1 == v) = false := by simpa using hv2
        rw [if_neg hv2] at hou
        repeat (first | (with_reducible refine AW.seq ?_) | (with_reducible refine AW.block ?_) | (with_reducible refine AW.skip ?_) | (with_reducible refine AW.ret ?_) | (with_reducible refine AW.exit ?_) | (with_reducible refine AW.reg hT ?_) | ((with_reducible refine AW.cond_true ?_ ?_); · rfl) | ((with_reducible refine AW.cond_false ?_ ?_); · rfl) | simp (maxSteps := 3000000) (maxDischargeDepth := 12) only [push_cast,appendX,reduceIte,reduceCtorEq,Nat.reduceSub,Nat.reduceAdd,Nat.reduceMul,Nat.reduceLT,Nat.reduceLeDiff,Nat.reduceEqDiff,Nat.reduceBEq,Int.reduceToNat,Int.reduceLT,Int.reduceLE,Int.reduceEq,Int.reduceNeg,Try.results23,dcml,xt3.2,xt3.ltT,xt3.leT,dci,dci2,dci0,dcel,dcw,dcv,dcv2])
        exact ⟨l.length + 1 - (i + 1), by omega, i + 1, d, rfl, hi, by rw [hou]; exact hh, hnew, xt3, by (simp only [push_cast, TellsL, tells_any, tells_refl])⟩
  · have dci : decide ((i : Int) < (l.length : Int)) = false := decide_eq_false (by omega)
    have he : i = l.length := by omega
    subst he
    refine AW.holdSlot (j := 5) hh rfl (fun σ4 xt4 => ?_)
    have xt5 : Ext [] σ σ4 := xt3.then xt4 (fun p hp hl => absurd (hnew p hp) (by omega))
    clear xt4 xt3 hh hnew
    repeat (first | (with_reducible refine AW.seq ?_) | (with_reducible refine AW.block ?_) | (with_reducible refine AW.skip ?_) | (with_reducible refine AW.ret ?_) | (with_reducible refine AW.exit ?_) | (with_reducible refine AW.reg hT ?_) | ((with_reducible refine AW.cond_true ?_ ?_); · rfl) | ((with_reducible refine AW.cond_false ?_ ?_); · rfl) | simp (maxSteps := 3000000) (maxDischargeDepth := 12) only [push_cast,appendX,reduceIte,reduceCtorEq,Nat.reduceSub,Nat.reduceAdd,Nat.reduceMul,Nat.reduceLT,Nat.reduceLeDiff,Nat.reduceEqDiff,Nat.reduceBEq,Int.reduceToNat,Int.reduceLT,Int.reduceLE,Int.reduceEq,Int.reduceNeg,Try.results23,dcml,dci,xt5.2,xt5.ltT,xt5.leT])
    refine AOpsL.call (first := []) (cap := []) hT rfl rfl rfl fn34 rfl (ACalls.mono (rising_ok _ (ndI l v l.length) (by omega)) ?_)
    rintro y σ6 ⟨P, ⟨hP, hPs⟩, rfl, xt6⟩
    have hone := near_one hP hPs
    subst hone
    repeat (first | (with_reducible refine AW.seq ?_) | (with_reducible refine AW.block ?_) | (with_reducible refine AW.skip ?_) | (with_reducible refine AW.ret ?_) | (with_reducible refine AW.exit ?_) | (with_reducible refine AW.reg hT ?_) | ((with_reducible refine AW.cond_true ?_ ?_); · rfl) | ((with_reducible refine AW.cond_false ?_ ?_); · rfl) | simp (maxSteps := 3000000) (maxDischargeDepth := 12) only [push_cast,appendX,reduceIte,reduceCtorEq,Nat.reduceSub,Nat.reduceAdd,Nat.reduceMul,Nat.reduceLT,Nat.reduceLeDiff,Nat.reduceEqDiff,Nat.reduceBEq,Int.reduceToNat,Int.reduceLT,Int.reduceLE,Int.reduceEq,Int.reduceNeg,Try.results23,dcml,dci,xt5.2,xt5.ltT,xt5.leT,xt6.2,xt6.ltT,xt6.leT])
    repeat (first | exact Ext.refl _ _ | assumption | refine Ext.push ?_ _ | ((refine Ext.set ?_ ?_ _); rotate_left; · (simp (maxSteps := 3000000) (maxDischargeDepth := 12) only [push_cast, appendX, Nat.reduceAdd, Nat.reduceEqDiff, Nat.reduceLT, Nat.reduceLeDiff, reduceIte, reduceCtorEq, dcml, dci, xt5.2, xt5.ltT, xt5.leT, xt6.2, xt6.ltT, xt6.leT])) | ((refine Ext.then1 (by assumption) ?_ ?_); rotate_left; · (intro p hp _; first | assumption | exact List.mem_cons_of_mem _ hp | (cases hp; done) | (simp at hp; subst hp; simp))))
end Go.Proofs.Ytpigelcckiejiaa.Cm
