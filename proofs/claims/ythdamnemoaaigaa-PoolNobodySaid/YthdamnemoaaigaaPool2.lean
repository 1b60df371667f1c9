/- Package pool: Out. -/
import Derived.Test.YthdamnemoaaigaaPool1
import Derived.Test.YthdamnemoaaigaaCmSort
namespace Go.Proofs.Ythdamnemoaaigaa.Cm
open Go.RowKit
set_option linter.unusedVariables false
set_option linter.unusedSimpArgs false
set_option maxRecDepth 20000
set_option maxHeartbeats 8000000
def keyAt (E : List (Int × DV)) (j : Nat) : Int := match E[j]? with | some e => e.1 | none => 0
theorem perm_keys {E : List (Int × DV)} {js : List Nat} (h1 : js.Nodup) (h2 : ∀ j ∈ js, j < E.length) (h3 : ∀ i, i < E.length → i ∈ js) : (js.map (keyAt E)).Perm (E.map Prod.fst) := by
  have hp : js.Perm (List.range E.length) := (List.perm_ext_iff_of_nodup h1 List.nodup_range).2 (fun j => by rw [List.mem_range]; exact ⟨h2 j, h3 j⟩)
  have he : (List.range E.length).map (keyAt E) = E.map Prod.fst := by
    apply List.ext_getElem (by simp)
    intro i h4 h5
    simp at h4
    simp [keyAt, h4]
  rw [← he]
  exact hp.map _
theorem nodup_len : ∀ (l m : List Nat), l.Nodup → (∀ x ∈ l, x ∈ m) → l.length ≤ m.length
  | [], m, _, _ => Nat.zero_le _
  | a :: l, m, h, hs => by
    rw [List.nodup_cons] at h
    have ha := hs a (by simp)
    have := nodup_len l (m.erase a) h.2 (fun x hx => (List.mem_erase_of_ne (fun e => h.1 (by rw [← e]; exact hx))).2 (hs x (List.mem_cons_of_mem _ hx)))
    rw [List.length_erase_of_mem ha] at this
    have hp := List.length_pos_of_mem ha
    rw [List.length_cons]; omega
theorem js_len {n : Nat} {js : List Nat} (h1 : js.Nodup) (h2 : ∀ j ∈ js, j < n) : js.length ≤ n := by
  have := nodup_len js (List.range n) h1 (fun j hj => List.mem_range.2 (h2 j hj))
  simpa using this
theorem perm_sorted : ∀ {l1 l2 : List Int}, l1.Perm l2 → l1.Pairwise (· ≤ ·) → l2.Pairwise (· ≤ ·) → l1 = l2
  | [], l2, h, _, _ => h.nil_eq
  | a :: l1, [], h, _, _ => by have := h.length_eq; simp at this
  | a :: l1, b :: l2, h, h1, h2 => by
    rw [List.pairwise_cons] at h1 h2
    have ha : a ∈ b :: l2 := h.mem_iff.1 (by simp)
    have hb : b ∈ a :: l1 := h.mem_iff.2 (by simp)
    have hab : a = b := by
      rcases List.mem_cons.1 ha with e | e
      · exact e
      · rcases List.mem_cons.1 hb with e2 | e2
        · exact e2.symm
        · have := h1.1 b e2
          have := h2.1 a e
          omega
    subst hab
    rw [perm_sorted ((List.perm_cons a).1 h) h1.2 h2.2]
theorem srt_one {l1 l2 : List Int} (h : l1.Perm l2) : srt l1 = srt l2 := perm_sorted ((srt_perm l1).trans (h.trans (srt_perm l2).symm)) (srt_sorted _) (srt_sorted _)
/-- An answer that is a row of its own is told by its elements; what is said of the old objects stays. -/
theorem toImmR {P : Program} {σ : Heap} {f : FuncId} {args : List DV} {e : TypeId} {els : List (List DV)} {R : Heap → Prop} (hR : ∀ σ' σ'', (∀ p, p < σ.n → σ''.get p = σ'.get p) → σ''.n = σ'.n → R σ' → R σ'')
    (h : ACalls P f args σ (fun x σ' => Hold σ' x e els ∧ (∀ q ∈ tOf x, σ.n ≤ q) ∧ R σ')) : ACalls P f args σ (fun x σ' => x = .imm els ∧ R σ') := by
  refine h.retell (fun c x v hok hv hh => ?_)
  obtain ⟨hrow, hnew, hr⟩ := hh
  rcases hrow with ⟨rfl, he⟩ | ⟨t, full, rfl, hget, hle, htk⟩
  · exact ⟨.imm [], c, rfl, hok, Ev.refl c, nil_imm hv, by rw [he], hr⟩
  · obtain ⟨h1, h2⟩ := Cm.freeze hok hget
    have hlt := Heap.lt hget
    refine ⟨.imm els, { c with σ := c.σ.set t { (⟨full, e, true⟩ : AObj) with own := false }, Z := fun b => c.Z b ∨ b = (c.μ t).blk }, rfl, h1, h2, ?_, rfl, hR _ _ (fun p hp => Heap.get_set_ne (fun e => by have := hnew t (by simp [tOf]); omega)) (by simp) hr⟩
    have := FZ.v h1 (ob := ⟨full, e, false⟩) (Heap.get_set hlt) rfl (.inr rfl) (FZ.sl (off := 0) (len := els.length) (by simpa using hle)) (hv.ev h2)
    simpa [htk] using this
def ptI (E : List (Int × DV)) (p t q k : Nat) (nx hi : Int) (σ0 : Heap) (m : Nat) (ts : List DV) (σ : Heap) : Prop := ∃ (js : List Nat) (d : DV), m = E.length + 1 - js.length ∧ js.Nodup ∧ (∀ j ∈ js, j < E.length) ∧ Hold σ d 3 ((js.map (keyAt E)).map eZ') ∧ (∀ x ∈ tOf d, σ0.n ≤ x ∧ x ≠ q) ∧ σ.get q = some ⟨itEls (E.map mE) t k js, 1000000000, none⟩ ∧ σ.get t = some ⟨E.map mE, 49 + 2000000000 * (k + 1), none⟩ ∧ σ.get p = some (pO nx hi t) ∧ Ext [t] σ0 σ ∧ TellsL ts (.any :: .any :: .any :: d :: .any :: .any :: .any :: .any :: .any :: .any :: .any :: .any :: .it q :: .any :: .any :: .any :: .any :: .any :: .any :: .any :: .any :: .any :: .any :: .any :: [])
theorem outH_ok (σ : Heap) {p t : Nat} {nx hi : Int} {E : List (Int × DV)} (h : Pl σ p t nx hi E) (hl : E.length ≤ 100000) : ACalls Try.prog 16 [.ptr p 0 0 1] σ (fun y σ' => Hold σ' y 3 ((srt (E.map Prod.fst)).map eZ') ∧ (∀ x ∈ tOf y, σ.n ≤ x) ∧ (Pl σ' p t nx hi E ∧ Ext [t] σ σ')) := by
  have gtp := h.po
  have gtm := h.pm
  have hpt := h.ne
  unfold pO at gtp
  unfold pM at gtm
  have hltp := Heap.lt gtp
  have hltm := Heap.lt gtm
  have dctp : (t = p) = False := by simp [Ne.symm hpt]
  refine ACalls.code hT Try.func16 rfl ?_
  simp only [Try.ntmps16, List.length_cons, List.length_nil, Nat.reduceSub, Nat.reduceAdd, List.replicate, List.cons_append, List.nil_append]
  refine AW.clock (t := t) gtm (by decide) (fun k => ?_)
  have gp1 : (σ.set t ⟨E.map mE, 49 + 2000000000 * (k + 1), none⟩).get p = some (pO nx hi t) := by rw [Heap.get_set_ne (Ne.symm hpt)]; exact h.po
  have gm1 : (σ.set t ⟨E.map mE, 49 + 2000000000 * (k + 1), none⟩).get t = some ⟨E.map mE, 49 + 2000000000 * (k + 1), none⟩ := Heap.get_set hltm
  have xx1 : Ext [t] σ (σ.set t ⟨E.map mE, 49 + 2000000000 * (k + 1), none⟩) := Ext.set (Ext.refl _ _) (.inr (by simp)) _
  generalize hσ1 : σ.set t ⟨E.map mE, 49 + 2000000000 * (k + 1), none⟩ = σ1 at gp1 gm1 xx1 ⊢
  clear hσ1 gtm
  have gtp := gp1
  unfold pO at gtp
  have gtm := gm1
  repeat ((fail_if_success (with_reducible refine AW.at1 (id := 4) ?_)); (fail_if_success (with_reducible refine AW.at2 (id := 4) ?_)); first | (with_reducible refine AW.seq ?_) | (with_reducible refine AW.block ?_) | (with_reducible refine AW.skip ?_) | (with_reducible refine AW.ret ?_) | (with_reducible refine AW.exit ?_) | (with_reducible refine AW.reg hT ?_) | ((with_reducible refine AW.cond_true ?_ ?_); · rfl) | ((with_reducible refine AW.cond_false ?_ ?_); · rfl) | simp (maxSteps := 3000000) (maxDischargeDepth := 12) only [push_cast,appendX,reduceIte,reduceCtorEq,Nat.reduceSub,Nat.reduceAdd,Nat.reduceMul,Nat.reduceLT,Nat.reduceLeDiff,Nat.reduceEqDiff,Nat.reduceBEq,Int.reduceToNat,Int.reduceLT,Int.reduceLE,Int.reduceEq,Int.reduceNeg,Try.results16,gtp,Heap.lt gtp,dctp,gtm,Heap.lt gtm])
  refine AOpsL.call (first := []) (cap := []) hT rfl rfl rfl fn21 rfl (ACalls.mono (good_ok _ gp1) ?_)
  rintro y s ⟨rfl, rfl⟩
  repeat (first | (with_reducible refine AW.seq ?_) | (with_reducible refine AW.block ?_) | (with_reducible refine AW.skip ?_) | (with_reducible refine AW.ret ?_) | (with_reducible refine AW.exit ?_) | (with_reducible refine AW.reg hT ?_) | ((with_reducible refine AW.cond_true ?_ ?_); · rfl) | ((with_reducible refine AW.cond_false ?_ ?_); · rfl) | simp (maxSteps := 3000000) (maxDischargeDepth := 12) only [push_cast,appendX,reduceIte,reduceCtorEq,Nat.reduceSub,Nat.reduceAdd,Nat.reduceMul,Nat.reduceLT,Nat.reduceLeDiff,Nat.reduceEqDiff,Nat.reduceBEq,Int.reduceToNat,Int.reduceLT,Int.reduceLE,Int.reduceEq,Int.reduceNeg,Try.results16,gtp,Heap.lt gtp,dctp,gtm,Heap.lt gtm])
  refine AOpsL.rule hT rfl (AOp.rangeMap (k := k) (els := E.map mE) (t := t) hT rfl rfl (by decide) rfl gm1 ?_)
  repeat (first | (with_reducible refine AW.seq ?_) | (with_reducible refine AW.block ?_) | (with_reducible refine AW.skip ?_) | (with_reducible refine AW.ret ?_) | (with_reducible refine AW.exit ?_) | (with_reducible refine AW.reg hT ?_) | ((with_reducible refine AW.cond_true ?_ ?_); · rfl) | ((with_reducible refine AW.cond_false ?_ ?_); · rfl) | simp (maxSteps := 3000000) (maxDischargeDepth := 12) only [push_cast,appendX,reduceIte,reduceCtorEq,Nat.reduceSub,Nat.reduceAdd,Nat.reduceMul,Nat.reduceLT,Nat.reduceLeDiff,Nat.reduceEqDiff,Nat.reduceBEq,Int.reduceToNat,Int.reduceLT,Int.reduceLE,Int.reduceEq,Int.reduceNeg,Try.results16,gtp,Heap.lt gtp,dctp,gtm,Heap.lt gtm])
  have hqn : s.n ≤ s.n := Nat.le_refl _
  refine AW.loop (ptI E p t s.n k nx hi σ) (m := E.length + 1) ⟨[], .sc (.slice none 0 0), by simp, by simp, by simp, Hold.nil _ _, by simp [tOf], by simp (maxSteps := 3000000) (maxDischargeDepth := 12) only [push_cast, appendX, Nat.reduceAdd, Nat.reduceEqDiff, Nat.reduceLT, Nat.reduceLeDiff, reduceIte, reduceCtorEq, gtp, Heap.lt gtp, dctp, gtm, Heap.lt gtm], by simp (maxSteps := 3000000) (maxDischargeDepth := 12) only [push_cast, appendX, Nat.reduceAdd, Nat.reduceEqDiff, Nat.reduceLT, Nat.reduceLeDiff, reduceIte, reduceCtorEq, gm1, gtp, Heap.lt gtp, dctp, gtm, Heap.lt gtm], by simp (maxSteps := 3000000) (maxDischargeDepth := 12) only [push_cast, appendX, Nat.reduceAdd, Nat.reduceEqDiff, Nat.reduceLT, Nat.reduceLeDiff, reduceIte, reduceCtorEq, gp1, gtp, Heap.lt gtp, dctp, gtm, Heap.lt gtm], Ext.push xx1 _, by (simp only [push_cast, TellsL, tells_any, tells_refl])⟩ ?_
  generalize hq : s.n = q at hqn ⊢
  have hqs : σ.n ≤ q := by rw [← hq]; exact xx1.1
  clear xx1 gp1 gm1 gtp gtm
  rintro m ts σ3 ⟨js, d, rfl, hnd, hjl, hh, hnew, gtq, gm3, gp3, xt3, hts⟩
  refine AW.told hts ?_
  clear hts
  have hjn := js_len hnd hjl
  have hjl' : ∀ j ∈ js, j < (E.map mE).length := by simpa using hjl
  have hltq := Heap.lt gtq
  by_cases hs : ∃ i, i < (E.map mE).length ∧ i ∉ js
  · repeat (first | (with_reducible refine AW.seq ?_) | (with_reducible refine AW.block ?_) | (with_reducible refine AW.skip ?_) | (with_reducible refine AW.ret ?_) | (with_reducible refine AW.exit ?_) | (with_reducible refine AW.reg hT ?_) | ((with_reducible refine AW.cond_true ?_ ?_); · rfl) | ((with_reducible refine AW.cond_false ?_ ?_); · rfl) | simp (maxSteps := 3000000) (maxDischargeDepth := 12) only [push_cast,appendX,reduceIte,reduceCtorEq,Nat.reduceSub,Nat.reduceAdd,Nat.reduceMul,Nat.reduceLT,Nat.reduceLeDiff,Nat.reduceEqDiff,Nat.reduceBEq,Int.reduceToNat,Int.reduceLT,Int.reduceLE,Int.reduceEq,Int.reduceNeg,Try.results16,dctp,gtq,Heap.lt gtq,xt3.2,xt3.ltT,xt3.leT])
    refine AOpsL.rule hT rfl (AOp.next_some (t := t) (k := k) (js := js) (q := q) hT rfl (ty := 49) (by decide) rfl gtq gm3 hjl' hs (fun i kd v sd hni hel => ?_))
    obtain ⟨e, he⟩ : ∃ e, E[i]? = some e := by
      have := (List.getElem?_eq_some_iff.1 hel).1
      rw [List.length_map] at this
      exact ⟨_, List.getElem?_eq_getElem this⟩
    have hie : i < E.length := (List.getElem?_eq_some_iff.1 he).1
    have hel2 := hel
    rw [List.getElem?_map, he] at hel2
    simp only [Option.map_some, mE, Option.some.injEq, List.cons.injEq, and_true] at hel2
    obtain ⟨rfl, rfl, rfl⟩ := hel2
    have htq : t ≠ q := fun e => by rw [e, gtq] at gm3; simp [itEls] at gm3; exact clash4 gm3.2.symm
    have hpq : p ≠ q := fun e => by rw [e, gtq] at gp3; simp [pO] at gp3
    have gtq4 : (σ3.set q ⟨itEls (E.map mE) t k (js ++ [i]), 1000000000, none⟩).get q = some ⟨itEls (E.map mE) t k (js ++ [i]), 1000000000, none⟩ := Heap.get_set hltq
    have gm4 : (σ3.set q ⟨itEls (E.map mE) t k (js ++ [i]), 1000000000, none⟩).get t = some ⟨E.map mE, 49 + 2000000000 * (k + 1), none⟩ := by rw [Heap.get_set_ne (Ne.symm htq)]; exact gm3
    have gp4 : (σ3.set q ⟨itEls (E.map mE) t k (js ++ [i]), 1000000000, none⟩).get p = some (pO nx hi t) := by rw [Heap.get_set_ne (Ne.symm hpq)]; exact gp3
    have xt4 : Ext [t] σ (σ3.set q ⟨itEls (E.map mE) t k (js ++ [i]), 1000000000, none⟩) := Ext.set xt3 (.inl hqs) _
    have hh4 : Hold (σ3.set q ⟨itEls (E.map mE) t k (js ++ [i]), 1000000000, none⟩) d 3 ((js.map (keyAt E)).map eZ') := hh.frame (X := [q]) (Ext.set (Ext.refl _ _) (.inr (by simp)) _) (fun x hx => by simpa using (hnew x hx).2)
    generalize σ3.set q ⟨itEls (E.map mE) t k (js ++ [i]), 1000000000, none⟩ = σ4 at gtq4 gm4 gp4 xt4 hh4 ⊢
    clear gtq gm3 gp3 xt3 hh
    repeat (first | (with_reducible refine AW.seq ?_) | (with_reducible refine AW.block ?_) | (with_reducible refine AW.skip ?_) | (with_reducible refine AW.ret ?_) | (with_reducible refine AW.exit ?_) | (with_reducible refine AW.reg hT ?_) | ((with_reducible refine AW.cond_true ?_ ?_); · rfl) | ((with_reducible refine AW.cond_false ?_ ?_); · rfl) | simp (maxSteps := 3000000) (maxDischargeDepth := 12) only [push_cast,appendX,reduceIte,reduceCtorEq,Nat.reduceSub,Nat.reduceAdd,Nat.reduceMul,Nat.reduceLT,Nat.reduceLeDiff,Nat.reduceEqDiff,Nat.reduceBEq,Int.reduceToNat,Int.reduceLT,Int.reduceLE,Int.reduceEq,Int.reduceNeg,Try.results16,dctp,gtq4,Heap.lt gtq4,xt4.2,xt4.ltT,xt4.leT])
    refine AOpsL.rule hT rfl (AOp.entry (js := js) (i := i) (q := q) (t := t) (k := k) hT rfl (ty := 49) (by decide) rfl gtq4 gm4 hel ?_)
    have hltq4 := Heap.lt gtq4
    have xp4 : Ext [] σ4 (σ4.push ⟨[[.sc (.int .i64 e.1)]], 3, true⟩) := (Ext.refl _ _).push _
    have hqd : q ∉ tOf d := fun hm => (hnew q hm).2 rfl
    have htd : t ∉ tOf d := fun hm => by have := (hnew t hm).1; omega
    have hpd : p ∉ tOf d := fun hm => by have := (hnew p hm).1; omega
    obtain ⟨d5, σ5, dnapp, hh5, hx5, hfp⟩ := Hold.append (T := T) (ty := 27) (x := .sl σ4.n 0 1 1) (xs := [[.sc (.int .i64 e.1)]]) (σ := σ4.push ⟨[[.sc (.int .i64 e.1)]], 3, true⟩) (hh4.frame (X := []) xp4 (by simp)) rfl rfl (by decide) (by simp [sliceD, getO]) (by simp) (by simp) (by simp; omega)
    have gtq5 := hx5.get (xp4.get gtq4 (by simp)) hqd
    have gm5 := hx5.get (xp4.get gm4 (by simp)) htd
    have gp5 := hx5.get (xp4.get gp4 (by simp)) hpd
    have hx6 : Ext [t] σ σ5 := (xt4.push _).then hx5 (fun y hy hl => absurd (hnew y hy).1 (by omega))
    have hnew5 : ∀ y ∈ tOf d5, σ.n ≤ y ∧ y ≠ q := fun y hy => by
      rcases Nat.lt_or_ge y (σ4.push ⟨[[DV.sc (.int .i64 e.1)]], 3, true⟩).n with hlt | hge
      · exact hnew y (hfp y hlt hy)
      · rw [Heap.n_push] at hge
        have := xt4.1
        exact ⟨by omega, by omega⟩
    clear xp4 hx5 hfp
    repeat (first | (with_reducible refine AW.seq ?_) | (with_reducible refine AW.block ?_) | (with_reducible refine AW.skip ?_) | (with_reducible refine AW.ret ?_) | (with_reducible refine AW.exit ?_) | (with_reducible refine AW.reg hT ?_) | ((with_reducible refine AW.cond_true ?_ ?_); · rfl) | ((with_reducible refine AW.cond_false ?_ ?_); · rfl) | simp (maxSteps := 3000000) (maxDischargeDepth := 12) only [push_cast,appendX,reduceIte,reduceCtorEq,Nat.reduceSub,Nat.reduceAdd,Nat.reduceMul,Nat.reduceLT,Nat.reduceLeDiff,Nat.reduceEqDiff,Nat.reduceBEq,Int.reduceToNat,Int.reduceLT,Int.reduceLE,Int.reduceEq,Int.reduceNeg,Try.results16,dctp,gtq4,Heap.lt gtq4,xt4.2,xt4.ltT,xt4.leT,↓dnapp,gtq5,Heap.lt gtq5])
    refine ⟨E.length + 1 - (js.length + 1), by omega, js ++ [i], d5, by simp, ?_, ?_, ?_, hnew5, gtq5, gm5, gp5, hx6, by (simp only [push_cast, TellsL, tells_any, tells_refl])⟩
    · rw [List.nodup_append]
      exact ⟨hnd, by simp, fun a ha b hb => by simp at hb; subst hb; rintro rfl; exact hni ha⟩
    · intro j hj
      rcases List.mem_append.1 hj with hj | hj
      · exact hjl j hj
      · simp at hj; subst hj; exact hie
    · have hk : keyAt E i = e.1 := by simp [keyAt, he]
      simpa [hk, eZ'] using hh5
  · have hall : ∀ i, i < (E.map mE).length → i ∈ js := fun i hi => Decidable.byContradiction (fun hn => hs ⟨i, hi, hn⟩)
    repeat (first | (with_reducible refine AW.seq ?_) | (with_reducible refine AW.block ?_) | (with_reducible refine AW.skip ?_) | (with_reducible refine AW.ret ?_) | (with_reducible refine AW.exit ?_) | (with_reducible refine AW.reg hT ?_) | ((with_reducible refine AW.cond_true ?_ ?_); · rfl) | ((with_reducible refine AW.cond_false ?_ ?_); · rfl) | simp (maxSteps := 3000000) (maxDischargeDepth := 12) only [push_cast,appendX,reduceIte,reduceCtorEq,Nat.reduceSub,Nat.reduceAdd,Nat.reduceMul,Nat.reduceLT,Nat.reduceLeDiff,Nat.reduceEqDiff,Nat.reduceBEq,Int.reduceToNat,Int.reduceLT,Int.reduceLE,Int.reduceEq,Int.reduceNeg,Try.results16,dctp])
    refine AOpsL.rule hT rfl (AOp.next_over (t := t) (k := k) (js := js) (q := q) hT rfl (ty := 49) (by decide) rfl gtq gm3 hjl' hall ?_)
    repeat ((fail_if_success (with_reducible refine AW.at1 (id := 8) ?_)); (fail_if_success (with_reducible refine AW.at2 (id := 8) ?_)); first | (with_reducible refine AW.seq ?_) | (with_reducible refine AW.block ?_) | (with_reducible refine AW.skip ?_) | (with_reducible refine AW.ret ?_) | (with_reducible refine AW.exit ?_) | (with_reducible refine AW.reg hT ?_) | ((with_reducible refine AW.cond_true ?_ ?_); · rfl) | ((with_reducible refine AW.cond_false ?_ ?_); · rfl) | simp (maxSteps := 3000000) (maxDischargeDepth := 12) only [push_cast,appendX,reduceIte,reduceCtorEq,Nat.reduceSub,Nat.reduceAdd,Nat.reduceMul,Nat.reduceLT,Nat.reduceLeDiff,Nat.reduceEqDiff,Nat.reduceBEq,Int.reduceToNat,Int.reduceLT,Int.reduceLE,Int.reduceEq,Int.reduceNeg,Try.results16,dctp])
    refine AW.unclock (t := t) (k := k) gm3 (by decide) ?_
    have hpm := perm_keys hnd hjl (fun i hi => hall i (by simpa using hi))
    have hltm3 := Heap.lt gm3
    have htd : t ∉ tOf d := fun hm => by have := (hnew t hm).1; omega
    have hpd : p ∉ tOf d := fun hm => by have := (hnew p hm).1; omega
    have gp4 : (σ3.set t ⟨E.map mE, 49, none⟩).get p = some (pO nx hi t) := by rw [Heap.get_set_ne (Ne.symm hpt)]; exact gp3
    have gm4 : (σ3.set t ⟨E.map mE, 49, none⟩).get t = some (pM E) := Heap.get_set hltm3
    have xt4 : Ext [t] σ (σ3.set t ⟨E.map mE, 49, none⟩) := Ext.set xt3 (.inr (by simp)) _
    have hh4 : Hold (σ3.set t ⟨E.map mE, 49, none⟩) d 3 ((js.map (keyAt E)).map eZ') := hh.frame (X := [t]) (Ext.set (Ext.refl _ _) (.inr (by simp)) _) (fun x hx => by simp; rintro rfl; exact htd hx)
    generalize σ3.set t ⟨E.map mE, 49, none⟩ = σ4 at gp4 gm4 xt4 hh4 ⊢
    clear gm3 gp3 xt3 hh gtq
    repeat (first | (with_reducible refine AW.seq ?_) | (with_reducible refine AW.block ?_) | (with_reducible refine AW.skip ?_) | (with_reducible refine AW.ret ?_) | (with_reducible refine AW.exit ?_) | (with_reducible refine AW.reg hT ?_) | ((with_reducible refine AW.cond_true ?_ ?_); · rfl) | ((with_reducible refine AW.cond_false ?_ ?_); · rfl) | simp (maxSteps := 3000000) (maxDischargeDepth := 12) only [push_cast,appendX,reduceIte,reduceCtorEq,Nat.reduceSub,Nat.reduceAdd,Nat.reduceMul,Nat.reduceLT,Nat.reduceLeDiff,Nat.reduceEqDiff,Nat.reduceBEq,Int.reduceToNat,Int.reduceLT,Int.reduceLE,Int.reduceEq,Int.reduceNeg,Try.results16,dctp,xt4.2,xt4.ltT,xt4.leT])
    refine AOpsL.call (first := []) (cap := []) hT rfl rfl rfl fn22 rfl (ACalls.mono (sortHold _ (js.map (keyAt E)) hh4 (by rw [List.length_map]; omega)) ?_)
    rintro y σ5 ⟨hh5, xt5⟩
    have dncl := hh5.cells
    have dnlf := hh5.leaf
    have hsr : srt (js.map (keyAt E)) = srt (E.map Prod.fst) := srt_one hpm
    rw [hsr] at hh5
    repeat (first | (with_reducible refine AW.seq ?_) | (with_reducible refine AW.block ?_) | (with_reducible refine AW.skip ?_) | (with_reducible refine AW.ret ?_) | (with_reducible refine AW.exit ?_) | (with_reducible refine AW.reg hT ?_) | ((with_reducible refine AW.cond_true ?_ ?_); · rfl) | ((with_reducible refine AW.cond_false ?_ ?_); · rfl) | simp (maxSteps := 3000000) (maxDischargeDepth := 12) only [push_cast,appendX,reduceIte,reduceCtorEq,Nat.reduceSub,Nat.reduceAdd,Nat.reduceMul,Nat.reduceLT,Nat.reduceLeDiff,Nat.reduceEqDiff,Nat.reduceBEq,Int.reduceToNat,Int.reduceLT,Int.reduceLE,Int.reduceEq,Int.reduceNeg,Try.results16,dctp,xt4.2,xt4.ltT,xt4.leT,xt5.2,xt5.ltT,xt5.leT,↓dncl,↓dnlf])
    exact ⟨hh5, fun x hx => (hnew x hx).1, ⟨xt5.get gp4 hpd, xt5.get gm4 htd⟩, xt4.then xt5 (fun y hy hl => absurd (hnew y hy).1 (by omega))⟩
theorem out_ok (σ : Heap) {p t : Nat} {nx hi : Int} {E : List (Int × DV)} (h : Pl σ p t nx hi E) (hl : E.length ≤ 100000) : ACalls Try.prog 16 [.ptr p 0 0 1] σ (fun y σ' => y = .imm ((srt (E.map Prod.fst)).map eZ') ∧ Pl σ' p t nx hi E ∧ Ext [t] σ σ') := by
  have hltp := Heap.lt h.po
  have hltm := Heap.lt h.pm
  refine toImmR (e := 3) (R := fun σ' => Pl σ' p t nx hi E ∧ Ext [t] σ σ') (fun σ1 σ2 hg hn hr => ⟨⟨by rw [hg p hltp]; exact hr.1.po, by rw [hg t hltm]; exact hr.1.pm⟩, by rw [hn]; exact hr.2.1, fun x hx hxt => by rw [hg x hx]; exact hr.2.2 x hx hxt⟩) (outH_ok σ h hl)
end Go.Proofs.Ythdamnemoaaigaa.Cm
