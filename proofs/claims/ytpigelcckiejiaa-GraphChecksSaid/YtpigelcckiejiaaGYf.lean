/- The document's Reach. What the laws of chapter 9 share: small, Ints, alive. The answers that the document fixes. -/
import Derived.Test.YtpigelcckiejiaaGYe
import Derived.Test.YtpigelcckiejiaaGYd
namespace Go.Proofs.Ytpigelcckiejiaa.Cm
open Go.RowKit
set_option linter.unusedVariables false
set_option linter.unusedSimpArgs false
set_option maxRecDepth 20000
set_option maxHeartbeats 8000000
def closedO (l : List Lk) (out : List Bool) : Prop := ∀ x ∈ l, out[x.f0.toNat]? = some true → out[x.f1.toNat]? = some true
/-- What holds of the marks in the middle of a round. -/
def RI (l : List Lk) (a : Int) (out0 out : List Bool) (i : Nat) : Prop :=
  (out = out0 ∨ cntF out < cntF out0) ∧ (∀ j x, j < i → l[j]? = some x → out0[x.f0.toNat]? = some true → out[x.f1.toNat]? = some true) ∧ (∀ v : Nat, out0[v]? = some true → out[v]? = some true) ∧ (closedO l out0 → out = out0) ∧ (∀ v : Nat, out[v]? = some true → Rc l a v) ∧ out.length = out0.length
theorem RI.start {l : List Lk} {a : Int} {out : List Bool} (h : ∀ v : Nat, out[v]? = some true → Rc l a v) : RI l a out out 0 := ⟨.inl rfl, fun j x hj => by omega, fun _ h => h, fun _ => rfl, h, rfl⟩
theorem RI.skip {l : List Lk} {a : Int} {out0 out : List Bool} {i : Nat} (h : RI l a out0 out i) {x : Lk} (hx : l[i]? = some x) (hb : out[x.f0.toNat]? ≠ some true) : RI l a out0 out (i + 1) := by
  obtain ⟨h1, h2, h3, h4, h5, h6⟩ := h
  refine ⟨h1, fun j y hj hy hyo => ?_, h3, h4, h5, h6⟩
  by_cases hji : j < i
  · exact h2 j y hji hy hyo
  · have : j = i := by omega
    subst this
    rw [hx] at hy; cases hy
    exact absurd (h3 _ hyo) hb
theorem RI.mark {l : List Lk} {a : Int} {out0 out : List Bool} {i w : Nat} (h : RI l a out0 out i) {x : Lk} (hx : l[i]? = some x) (h0 : 0 ≤ x.f0) (hw1 : x.f1 = w) (hwl : w < out.length) (hb : out[x.f0.toNat]? = some true) : RI l a out0 (out.set w true) (i + 1) := by
  obtain ⟨h1, h2, h3, h4, h5, h6⟩ := h
  have hst : ∀ u : Nat, out[u]? = some true → (out.set w true)[u]? = some true := fun u hu => by
    by_cases hwu : w = u
    · subst hwu; exact List.getElem?_set_self hwl
    · rw [List.getElem?_set_ne hwu]; exact hu
  have hxl := List.mem_of_getElem? hx
  have hb2 : ∀ j y, j < i + 1 → l[j]? = some y → out0[y.f0.toNat]? = some true → (out.set w true)[y.f1.toNat]? = some true := fun j y hj hy hyo => by
    by_cases hji : j < i
    · exact hst _ (h2 j y hji hy hyo)
    · have : j = i := by omega
      subst this
      rw [hx] at hy; cases hy
      rw [hw1, Int.toNat_natCast]; exact List.getElem?_set_self hwl
  have hrc : ∀ v : Nat, (out.set w true)[v]? = some true → Rc l a v := fun v hv => by
    by_cases hwv : w = v
    · subst hwv
      have := Rc.step hxl (show Rc l a x.f0 by
        have h8 := h5 _ hb
        have h9 : ((x.f0.toNat : Nat) : Int) = x.f0 := by omega
        rw [h9] at h8; exact h8)
      rw [hw1] at this; exact this
    · rw [List.getElem?_set_ne hwv] at hv; exact h5 v hv
  cases hbw : out[w]'hwl with
  | true =>
    have he : out.set w true = out := by
      apply List.ext_getElem?
      intro u
      by_cases hwu : w = u
      · subst hwu; rw [List.getElem?_set_self hwl, List.getElem?_eq_getElem hwl, hbw]
      · rw [List.getElem?_set_ne hwu]
    rw [he] at hb2 hrc ⊢
    exact ⟨h1, hb2, h3, h4, hrc, h6⟩
  | false =>
    have hc : cntF (out.set w true) + 1 = cntF out := cntF_set (by rw [List.getElem?_eq_getElem hwl, hbw])
    refine ⟨.inr ?_, hb2, fun v hv => hst v (h3 v hv), fun hcl => ?_, hrc, by rw [List.length_set]; exact h6⟩
    · rcases h1 with h1 | h1
      · rw [h1] at hc ⊢; omega
      · omega
    · have he := h4 hcl
      exfalso
      have := hcl x hxl (by rw [← he]; exact hb)
      rw [hw1, Int.toNat_natCast, ← he, List.getElem?_eq_getElem hwl, hbw] at this
      cases this
theorem RI.round {l : List Lk} {a : Int} {out0 out : List Bool} {n k : Nat} (h : RI l a out0 out l.length) (hk : closedO l out0 ∨ cntF out0 + k < n) : closedO l out ∨ cntF out + (k + 1) < n := by
  obtain ⟨h1, h2, h3, h4, h5, h6⟩ := h
  rcases h1 with h1 | h1
  · left
    intro x hx hxo
    obtain ⟨j, hj⟩ := List.mem_iff_getElem?.1 hx
    exact h2 j x (List.getElem?_eq_some_iff.1 hj).1 hj (by rw [← h1]; exact hxo)
  · rcases hk with hk | hk
    · rw [h4 hk] at h1; omega
    · right; omega
def rrI1 (nn : Nat) (l : List Lk) (a : Int) (tb : Nat) (σ0 : Heap) (m : Nat) (ts : List DV) (σ : Heap) : Prop := ∃ (k : Nat) (out : List Bool), m = nn + 1 - k ∧ k ≤ nn ∧ out.length = nn ∧ (closedO l out ∨ cntF out + k < nn) ∧ (∀ v : Nat, out[v]? = some true → Rc l a v) ∧ out[a.toNat]? = some true ∧ σ.get tb = some ⟨out.map eB, 4, true⟩ ∧ Ext [] σ0 σ ∧ TellsL ts (.sc (.int .i64 nn) :: .imm (l.map eK) :: .any :: .any :: .any :: .any :: .any :: .sl tb 0 nn nn :: .sc (.int .i64 k) :: .any :: .any :: .any :: .any :: .any :: .any :: .any :: .any :: .any :: .any :: .any :: .any :: .any :: .any :: .any :: .any :: .any :: .any :: .any :: .any :: .any :: .any :: .any :: .any :: .any :: .any :: .any :: .any :: .any :: .any :: .any :: .any :: .any :: .any :: .any :: .any :: .any :: .any :: .any :: .any :: .any :: .any :: .any :: .any :: .any :: .any :: [])
def rrJ1 (nn : Nat) (l : List Lk) (a : Int) (out0 : List Bool) (k : Nat) (tb : Nat) (σ0 : Heap) (m : Nat) (ts : List DV) (σ : Heap) : Prop := ∃ (i : Nat) (out : List Bool), m = l.length + 1 - i ∧ i ≤ l.length ∧ RI l a out0 out i ∧ σ.get tb = some ⟨out.map eB, 4, true⟩ ∧ Ext [] σ0 σ ∧ TellsL ts (.sc (.int .i64 nn) :: .imm (l.map eK) :: .any :: .any :: .any :: .any :: .any :: .sl tb 0 nn nn :: .sc (.int .i64 k) :: .sc (.int .i64 i) :: .any :: .any :: .any :: .any :: .any :: .any :: .any :: .any :: .any :: .any :: .any :: .any :: .any :: .any :: .any :: .any :: .any :: .any :: .any :: .any :: .any :: .any :: .any :: .any :: .any :: .any :: .any :: .any :: .any :: .any :: .any :: .any :: .any :: .any :: .any :: .any :: .any :: .any :: .any :: .any :: .any :: .any :: .any :: .any :: .any :: [])
theorem rreach_ok (σ : Heap) (n : Int) (l : List Lk) (a : Int) : ACalls Try.prog 14 [.sc (.int .i64 n), .imm (l.map eK), .sc (.int .i64 a)] σ (fun y σ' => ∃ out, RchOk n l a out ∧ y = .imm (out.map eB) ∧ Ext [] σ σ') := by
  have dcml : (l.map eK).length = l.length := by simp
  refine toImmE (e := 4) ?_
  refine ACalls.code hT Try.func14 rfl ?_
  simp only [Try.ntmps14, List.length_cons, List.length_nil, Nat.reduceSub, Nat.reduceAdd, List.replicate, List.cons_append, List.nil_append]
  repeat (first | (with_reducible refine AW.seq ?_) | (with_reducible refine AW.block ?_) | (with_reducible refine AW.skip ?_) | (with_reducible refine AW.ret ?_) | (with_reducible refine AW.exit ?_) | (with_reducible refine AW.reg hT ?_) | ((with_reducible refine AW.cond_true ?_ ?_); · rfl) | ((with_reducible refine AW.cond_false ?_ ?_); · rfl) | simp (maxSteps := 3000000) (maxDischargeDepth := 12) only [push_cast,appendX,reduceIte,reduceCtorEq,Nat.reduceSub,Nat.reduceAdd,Nat.reduceMul,Nat.reduceLT,Nat.reduceLeDiff,Nat.reduceEqDiff,Nat.reduceBEq,Int.reduceToNat,Int.reduceLT,Int.reduceLE,Int.reduceEq,Int.reduceNeg,Try.results14,dcml])
  refine AOpsL.call (first := []) (cap := []) hT rfl rfl rfl fn17 rfl (ACalls.mono (rcheck_ok _ n l) ?_)
  rintro y σ1 ⟨rfl, xt1⟩
  by_cases hc : chk n l = 0
  · have dcc : (chk n l == 0) = true := by simpa using hc
    by_cases ha : a < 0
    · have dca : decide (a < 0) = true := decide_eq_true ha
      repeat (first | (with_reducible refine AW.seq ?_) | (with_reducible refine AW.block ?_) | (with_reducible refine AW.skip ?_) | (with_reducible refine AW.ret ?_) | (with_reducible refine AW.exit ?_) | (with_reducible refine AW.reg hT ?_) | ((with_reducible refine AW.cond_true ?_ ?_); · rfl) | ((with_reducible refine AW.cond_false ?_ ?_); · rfl) | simp (maxSteps := 3000000) (maxDischargeDepth := 12) only [push_cast,appendX,reduceIte,reduceCtorEq,Nat.reduceSub,Nat.reduceAdd,Nat.reduceMul,Nat.reduceLT,Nat.reduceLeDiff,Nat.reduceEqDiff,Nat.reduceBEq,Int.reduceToNat,Int.reduceLT,Int.reduceLE,Int.reduceEq,Int.reduceNeg,Try.results14,dcml,xt1.2,xt1.ltT,xt1.leT,dcc,dca])
      exact ⟨[], ⟨fun _ => rfl, fun h => by omega⟩, Hold.nil _ _, by simp [tOf], xt1⟩
    have dca : decide (a < 0) = false := decide_eq_false ha
    by_cases hn : n ≤ a
    · have dcn : decide (n ≤ a) = true := decide_eq_true hn
      repeat (first | (with_reducible refine AW.seq ?_) | (with_reducible refine AW.block ?_) | (with_reducible refine AW.skip ?_) | (with_reducible refine AW.ret ?_) | (with_reducible refine AW.exit ?_) | (with_reducible refine AW.reg hT ?_) | ((with_reducible refine AW.cond_true ?_ ?_); · rfl) | ((with_reducible refine AW.cond_false ?_ ?_); · rfl) | simp (maxSteps := 3000000) (maxDischargeDepth := 12) only [push_cast,appendX,reduceIte,reduceCtorEq,Nat.reduceSub,Nat.reduceAdd,Nat.reduceMul,Nat.reduceLT,Nat.reduceLeDiff,Nat.reduceEqDiff,Nat.reduceBEq,Int.reduceToNat,Int.reduceLT,Int.reduceLE,Int.reduceEq,Int.reduceNeg,Try.results14,dcml,xt1.2,xt1.ltT,xt1.leT,dcc,dca,dcn])
      exact ⟨[], ⟨fun _ => rfl, fun h => by omega⟩, Hold.nil _ _, by simp [tOf], xt1⟩
    have dcn : decide (n ≤ a) = false := decide_eq_false hn
    obtain ⟨⟨hk, _⟩, hn1, hn16, hl64⟩ := ck_of hc
    obtain ⟨nn, rfl⟩ := Int.eq_ofNat_of_zero_le (show 0 ≤ n by omega)
    obtain ⟨aa, rfl⟩ := Int.eq_ofNat_of_zero_le (show 0 ≤ a by omega)
    have dcnn0 : ((0 : Int) ≤ (nn : Int)) = True := by simp
    have dca1 : ((aa : Int) < (nn : Int)) = True := by simp; omega
    have dca0 : ((0 : Int) ≤ (aa : Int)) = True := by simp
    have dcnb : (nn * 2 ≤ 140737488355328) = True := by simp; omega
    obtain ⟨out0, hout0⟩ : ∃ o, o = List.replicate nn false := ⟨_, rfl⟩
    have dcr : List.replicate nn [DV.sc (.bool false)] = out0.map eB := by rw [hout0, List.map_replicate]; rfl
    have dcol : (out0.map eB).length = nn := by rw [hout0]; simp
    have dco : (out0.map eB)[aa]? = some [.sc (.bool false)] := by rw [hout0]; simp [eB, List.getElem?_replicate]; omega
    have hset : (out0.map eB).set aa [.sc (.bool true)] = (out0.set aa true).map eB := by simp [List.map_set, eB]
    have hol : out0.length = nn := by simpa using dcol
    have ho0 : ∀ v : Nat, (out0.set aa true)[v]? = some true → v = aa := by
      intro v hv
      by_cases hva : aa = v
      · exact hva.symm
      · rw [List.getElem?_set_ne hva, hout0, List.getElem?_replicate] at hv
        split at hv
        · cases hv
        · cases hv
    have hcf : cntF (out0.set aa true) + 1 = cntF out0 := cntF_set (by rw [hout0, List.getElem?_replicate, if_pos (by omega)])
    have hcl : cntF out0 ≤ out0.length := List.count_le_length
    repeat (first | (with_reducible refine AW.seq ?_) | (with_reducible refine AW.block ?_) | (with_reducible refine AW.skip ?_) | (with_reducible refine AW.ret ?_) | (with_reducible refine AW.exit ?_) | (with_reducible refine AW.reg hT ?_) | ((with_reducible refine AW.cond_true ?_ ?_); · rfl) | ((with_reducible refine AW.cond_false ?_ ?_); · rfl) | simp (maxSteps := 3000000) (maxDischargeDepth := 12) only [push_cast,appendX,reduceIte,reduceCtorEq,Nat.reduceSub,Nat.reduceAdd,Nat.reduceMul,Nat.reduceLT,Nat.reduceLeDiff,Nat.reduceEqDiff,Nat.reduceBEq,Int.reduceToNat,Int.reduceLT,Int.reduceLE,Int.reduceEq,Int.reduceNeg,Try.results14,dcml,xt1.2,xt1.ltT,xt1.leT,dcc,dca,dcn,dcnn0,dca1,dca0,dcnb,dcr,dcol,dco])
    refine AW.loop (rrI1 nn l aa σ1.n σ) (m := nn + 1) ⟨0, out0.set aa true, rfl, Nat.zero_le _, by simp [hol], .inr (by omega), fun v hv => by rw [ho0 v hv]; exact .start, by rw [Int.toNat_natCast, List.getElem?_set_self (by omega)], by rw [← hset]; simp (maxSteps := 3000000) (maxDischargeDepth := 12) only [push_cast, appendX, Nat.reduceAdd, Nat.reduceEqDiff, Nat.reduceLT, Nat.reduceLeDiff, reduceIte, reduceCtorEq, dcml, xt1.2, xt1.ltT, xt1.leT, dcc, dca, dcn, dcnn0, dca1, dca0, dcnb, dcr, dcol, dco], by repeat (first | exact Ext.refl _ _ | assumption | refine Ext.push ?_ _ | ((refine Ext.set ?_ ?_ _); rotate_left; · (simp (maxSteps := 3000000) (maxDischargeDepth := 12) only [push_cast, appendX, Nat.reduceAdd, Nat.reduceEqDiff, Nat.reduceLT, Nat.reduceLeDiff, reduceIte, reduceCtorEq, dcml, xt1.2, xt1.ltT, xt1.leT, dcc, dca, dcn, dcnn0, dca1, dca0, dcnb, dcr, dcol, dco])) | ((refine Ext.then1 (by assumption) ?_ ?_); rotate_left; · (intro p hp _; first | assumption | exact List.mem_cons_of_mem _ hp | (cases hp; done) | (simp at hp; subst hp; simp)))), by (simp only [push_cast, TellsL, tells_any, tells_refl])⟩ ?_
    have htb : σ.n ≤ σ1.n := xt1.1
    generalize σ1.n = tb at htb ⊢
    clear xt1 dcr dco dcol hset ho0 hol hout0 hcf hcl
    rintro m ts σ3 ⟨k, out, rfl, hkn, hol, hcl, hrc, haa, gtb, xt3, hts⟩
    refine AW.told hts ?_
    clear hts
    by_cases hkk : k < nn
    · have dck : decide ((k : Int) < (nn : Int)) = true := decide_eq_true (by omega)
      have dcwk : IntKind.i64.wrap ((k : Int) + 1) = (k : Int) + 1 := wrap_i64 (by omega) (by omega)
      repeat (first | (with_reducible refine AW.seq ?_) | (with_reducible refine AW.block ?_) | (with_reducible refine AW.skip ?_) | (with_reducible refine AW.ret ?_) | (with_reducible refine AW.exit ?_) | (with_reducible refine AW.reg hT ?_) | ((with_reducible refine AW.cond_true ?_ ?_); · rfl) | ((with_reducible refine AW.cond_false ?_ ?_); · rfl) | simp (maxSteps := 3000000) (maxDischargeDepth := 12) only [push_cast,appendX,reduceIte,reduceCtorEq,Nat.reduceSub,Nat.reduceAdd,Nat.reduceMul,Nat.reduceLT,Nat.reduceLeDiff,Nat.reduceEqDiff,Nat.reduceBEq,Int.reduceToNat,Int.reduceLT,Int.reduceLE,Int.reduceEq,Int.reduceNeg,Try.results14,dcml,dcc,dca,dcn,dcnn0,dca1,dca0,dcnb,gtb,Heap.lt gtb,xt3.2,xt3.ltT,xt3.leT,dck,dcwk])
      refine AW.loop (rrJ1 nn l aa out k tb σ) (m := l.length + 1) ⟨0, out, rfl, Nat.zero_le _, RI.start hrc, gtb, xt3, by (simp only [push_cast, TellsL, tells_any, tells_refl])⟩ ?_
      clear gtb xt3
      rintro m ts σ4 ⟨i, out1, rfl, hil, hri, gtb4, xt4, hts⟩
      refine AW.told hts ?_
      clear hts
      have hlb := Heap.lt gtb4
      have hol1 : out1.length = nn := hri.2.2.2.2.2.trans hol
      by_cases hi : i < l.length
      · have dci : decide ((i : Int) < (l.length : Int)) = true := decide_eq_true (by omega)
        have dci2 : ((i : Int) < (l.length : Int)) = True := by simp; omega
        have dci0 : ((0 : Int) ≤ (i : Int)) = True := by simp
        have dcwi : IntKind.i64.wrap ((i : Int) + 1) = (i : Int) + 1 := wrap_i64 (by omega) (by omega)
        obtain ⟨x, hx⟩ : ∃ x, l[i]? = some x := ⟨_, List.getElem?_eq_getElem hi⟩
        have hlk := hk x (List.mem_of_getElem? hx)
        unfold lkOk at hlk
        obtain ⟨u, hu1⟩ := Int.eq_ofNat_of_zero_le hlk.1
        obtain ⟨w, hw1⟩ := Int.eq_ofNat_of_zero_le hlk.2.2.1
        have dcel : (l.map eK)[i]? = some (eK x) := by rw [List.getElem?_map, hx]; rfl
        rw [eK_eq, hu1, hw1] at dcel
        have dcu1 : ((u : Int) < (nn : Int)) = True := by simp; omega
        have dcu0 : ((0 : Int) ≤ (u : Int)) = True := by simp
        have dcw1 : ((w : Int) < (nn : Int)) = True := by simp; omega
        have dcw0 : ((0 : Int) ≤ (w : Int)) = True := by simp
        have dcol : (out1.map eB).length = nn := by simp [hol1]
        have hul : u < out1.length := by omega
        have hwl : w < out1.length := by omega
        have hset : (out1.map eB).set w [.sc (.bool true)] = (out1.set w true).map eB := by simp [List.map_set, eB]
        have dcow : (out1.map eB)[w]? = some [.sc (.bool out1[w])] := by rw [List.getElem?_map, List.getElem?_eq_getElem hwl]; rfl
        cases hb : out1[u]'hul with
        | true =>
          have dcou : (out1.map eB)[u]? = some [.sc (.bool true)] := by rw [List.getElem?_map, List.getElem?_eq_getElem hul, hb]; rfl
          repeat (first | (with_reducible refine AW.seq ?_) | (with_reducible refine AW.block ?_) | (with_reducible refine AW.skip ?_) | (with_reducible refine AW.ret ?_) | (with_reducible refine AW.exit ?_) | (with_reducible refine AW.reg hT ?_) | ((with_reducible refine AW.cond_true ?_ ?_); · rfl) | ((with_reducible refine AW.cond_false ?_ ?_); · rfl) | simp (maxSteps := 3000000) (maxDischargeDepth := 12) only [push_cast,appendX,reduceIte,reduceCtorEq,Nat.reduceSub,Nat.reduceAdd,Nat.reduceMul,Nat.reduceLT,Nat.reduceLeDiff,Nat.reduceEqDiff,Nat.reduceBEq,Int.reduceToNat,Int.reduceLT,Int.reduceLE,Int.reduceEq,Int.reduceNeg,Try.results14,dcml,dcc,dca,dcn,dcnn0,dca1,dca0,dcnb,dck,dcwk,gtb4,Heap.lt gtb4,xt4.2,xt4.ltT,xt4.leT,dci,dci2,dci0,dcwi,dcel,dcu1,dcu0,dcw1,dcw0,dcol,dcow,dcou])
          refine ⟨l.length + 1 - (i + 1), by omega, i + 1, out1.set w true, rfl, hi, hri.mark hx hlk.1 hw1 hwl (by rw [hu1, Int.toNat_natCast, List.getElem?_eq_getElem hul, hb]), by rw [← hset]; simp (maxSteps := 3000000) (maxDischargeDepth := 12) only [push_cast, appendX, Nat.reduceAdd, Nat.reduceEqDiff, Nat.reduceLT, Nat.reduceLeDiff, reduceIte, reduceCtorEq, dcml, dcc, dca, dcn, dcnn0, dca1, dca0, dcnb, dck, dcwk, gtb4, Heap.lt gtb4, xt4.2, xt4.ltT, xt4.leT, dci, dci2, dci0, dcwi, dcel, dcu1, dcu0, dcw1, dcw0, dcol, dcow, dcou], ?_, by (simp only [push_cast, TellsL, tells_any, tells_refl])⟩
          refine xt4.then (Y := [tb]) (by repeat (first | exact Ext.refl _ _ | assumption | refine Ext.push ?_ _ | ((refine Ext.set ?_ ?_ _); rotate_left; · (simp (maxSteps := 3000000) (maxDischargeDepth := 12) only [push_cast, appendX, Nat.reduceAdd, Nat.reduceEqDiff, Nat.reduceLT, Nat.reduceLeDiff, reduceIte, reduceCtorEq, dcml, dcc, dca, dcn, dcnn0, dca1, dca0, dcnb, dck, dcwk, gtb4, Heap.lt gtb4, xt4.2, xt4.ltT, xt4.leT, dci, dci2, dci0, dcwi, dcel, dcu1, dcu0, dcw1, dcw0, dcol, dcow, dcou])) | ((refine Ext.then1 (by assumption) ?_ ?_); rotate_left; · (intro p hp _; first | assumption | exact List.mem_cons_of_mem _ hp | (cases hp; done) | (simp at hp; subst hp; simp))))) (by intro q hq hl; simp at hq; omega)
        | false =>
          have dcou : (out1.map eB)[u]? = some [.sc (.bool false)] := by rw [List.getElem?_map, List.getElem?_eq_getElem hul, hb]; rfl
          repeat (first | (with_reducible refine AW.seq ?_) | (with_reducible refine AW.block ?_) | (with_reducible refine AW.skip ?_) | (with_reducible refine AW.ret ?_) | (with_reducible refine AW.exit ?_) | (with_reducible refine AW.reg hT ?_) | ((with_reducible refine AW.cond_true ?_ ?_); · rfl) | ((with_reducible refine AW.cond_false ?_ ?_); · rfl) | simp (maxSteps := 3000000) (maxDischargeDepth := 12) only [push_cast,appendX,reduceIte,reduceCtorEq,Nat.reduceSub,Nat.reduceAdd,Nat.reduceMul,Nat.reduceLT,Nat.reduceLeDiff,Nat.reduceEqDiff,Nat.reduceBEq,Int.reduceToNat,Int.reduceLT,Int.reduceLE,Int.reduceEq,Int.reduceNeg,Try.results14,dcml,dcc,dca,dcn,dcnn0,dca1,dca0,dcnb,dck,dcwk,gtb4,Heap.lt gtb4,xt4.2,xt4.ltT,xt4.leT,dci,dci2,dci0,dcwi,dcel,dcu1,dcu0,dcw1,dcw0,dcol,dcow,dcou])
          exact ⟨l.length + 1 - (i + 1), by omega, i + 1, out1, rfl, hi, hri.skip hx (by rw [hu1, Int.toNat_natCast, List.getElem?_eq_getElem hul, hb]; simp), gtb4, xt4, by (simp only [push_cast, TellsL, tells_any, tells_refl])⟩
      · have dci : decide ((i : Int) < (l.length : Int)) = false := decide_eq_false (by omega)
        have he : i = l.length := by omega
        subst he
        repeat (first | (with_reducible refine AW.seq ?_) | (with_reducible refine AW.block ?_) | (with_reducible refine AW.skip ?_) | (with_reducible refine AW.ret ?_) | (with_reducible refine AW.exit ?_) | (with_reducible refine AW.reg hT ?_) | ((with_reducible refine AW.cond_true ?_ ?_); · rfl) | ((with_reducible refine AW.cond_false ?_ ?_); · rfl) | simp (maxSteps := 3000000) (maxDischargeDepth := 12) only [push_cast,appendX,reduceIte,reduceCtorEq,Nat.reduceSub,Nat.reduceAdd,Nat.reduceMul,Nat.reduceLT,Nat.reduceLeDiff,Nat.reduceEqDiff,Nat.reduceBEq,Int.reduceToNat,Int.reduceLT,Int.reduceLE,Int.reduceEq,Int.reduceNeg,Try.results14,dcml,dcc,dca,dcn,dcnn0,dca1,dca0,dcnb,dck,dcwk,gtb4,Heap.lt gtb4,xt4.2,xt4.ltT,xt4.leT,dci])
        exact ⟨nn + 1 - (k + 1), by omega, k + 1, out1, rfl, hkk, hol1, hri.round hcl, hri.2.2.2.2.1, hri.2.2.1 _ haa, gtb4, xt4, by (simp only [push_cast, TellsL, tells_any, tells_refl])⟩
    · have dck : decide ((k : Int) < (nn : Int)) = false := decide_eq_false (by omega)
      have hcl2 : closedO l out := by
        rcases hcl with h | h
        · exact h
        · omega
      have hrok : RchOk nn l aa out := BF.close (n := (nn : Int)) ⟨hrc, haa, by simp, fun k x hx hxo => .inr (.inl (hcl2 x (List.mem_of_getElem? hx) hxo))⟩ hc ⟨by omega, by omega⟩ (by omega)
      repeat (first | (with_reducible refine AW.seq ?_) | (with_reducible refine AW.block ?_) | (with_reducible refine AW.skip ?_) | (with_reducible refine AW.ret ?_) | (with_reducible refine AW.exit ?_) | (with_reducible refine AW.reg hT ?_) | ((with_reducible refine AW.cond_true ?_ ?_); · rfl) | ((with_reducible refine AW.cond_false ?_ ?_); · rfl) | simp (maxSteps := 3000000) (maxDischargeDepth := 12) only [push_cast,appendX,reduceIte,reduceCtorEq,Nat.reduceSub,Nat.reduceAdd,Nat.reduceMul,Nat.reduceLT,Nat.reduceLeDiff,Nat.reduceEqDiff,Nat.reduceBEq,Int.reduceToNat,Int.reduceLT,Int.reduceLE,Int.reduceEq,Int.reduceNeg,Try.results14,dcml,dcc,dca,dcn,dcnn0,dca1,dca0,dcnb,dck])
      exact ⟨out, hrok, (by have h := Hold.row gtb; simpa [hol] using h), by simp [tOf]; omega, xt3⟩
  · have dcc : (chk n l == 0) = false := by simpa using hc
    repeat (first | (with_reducible refine AW.seq ?_) | (with_reducible refine AW.block ?_) | (with_reducible refine AW.skip ?_) | (with_reducible refine AW.ret ?_) | (with_reducible refine AW.exit ?_) | (with_reducible refine AW.reg hT ?_) | ((with_reducible refine AW.cond_true ?_ ?_); · rfl) | ((with_reducible refine AW.cond_false ?_ ?_); · rfl) | simp (maxSteps := 3000000) (maxDischargeDepth := 12) only [push_cast,appendX,reduceIte,reduceCtorEq,Nat.reduceSub,Nat.reduceAdd,Nat.reduceMul,Nat.reduceLT,Nat.reduceLeDiff,Nat.reduceEqDiff,Nat.reduceBEq,Int.reduceToNat,Int.reduceLT,Int.reduceLE,Int.reduceEq,Int.reduceNeg,Try.results14,dcml,dcc])
    exact ⟨[], ⟨fun _ => rfl, fun h => absurd h.1 hc⟩, Hold.nil _ _, by simp [tOf], xt1⟩
def okM (x : Lk) : Prop := -1099511627776 ≤ x.f3 ∧ x.f3 ≤ 1099511627776
def smI (l : List Lk) (σ0 : Heap) (m : Nat) (ts : List DV) (σ : Heap) : Prop := ∃ i, m = l.length + 1 - i ∧ i ≤ l.length ∧ (∀ x ∈ l.take i, okM x) ∧ σ = σ0 ∧ TellsL ts (.imm (l.map eK) :: .any :: .any :: .any :: .any :: .sc (.int .i64 l.length) :: .sc (.int .i64 i) :: .any :: .any :: .any :: .any :: .any :: .any :: .any :: .any :: .any :: .any :: .any :: .any :: .any :: .any :: .any :: .any :: .any :: .any :: .any :: .any :: [])
theorem small_ok (σ : Heap) (l : List Lk) (hl : l.length ≤ maxLen) : ACalls Try.prog 10 [.imm (l.map eK)] σ (fun y σ' => (∃ b, y = .sc (.bool b) ∧ (b = true → smallL l ∧ l.length ≤ 200)) ∧ σ' = σ) := by
  have dcml : (l.map eK).length = l.length := by simp
  simp only [maxLen] at hl
  refine ACalls.code hT Try.func10 rfl ?_
  simp only [Try.ntmps10, List.length_cons, List.length_nil, Nat.reduceSub, Nat.reduceAdd, List.replicate, List.cons_append, List.nil_append]
  repeat (first | (with_reducible refine AW.seq ?_) | (with_reducible refine AW.block ?_) | (with_reducible refine AW.skip ?_) | (with_reducible refine AW.ret ?_) | (with_reducible refine AW.exit ?_) | (with_reducible refine AW.reg hT ?_) | ((with_reducible refine AW.cond_true ?_ ?_); · rfl) | ((with_reducible refine AW.cond_false ?_ ?_); · rfl) | simp (maxSteps := 3000000) (maxDischargeDepth := 12) only [push_cast,appendX,reduceIte,reduceCtorEq,Nat.reduceSub,Nat.reduceAdd,Nat.reduceMul,Nat.reduceLT,Nat.reduceLeDiff,Nat.reduceEqDiff,Nat.reduceBEq,Int.reduceToNat,Int.reduceLT,Int.reduceLE,Int.reduceEq,Int.reduceNeg,Try.results10,dcml])
  refine AW.loop (smI l σ) (m := l.length + 1) ⟨0, rfl, Nat.zero_le _, by simp, rfl, by (simp only [push_cast, TellsL, tells_any, tells_refl])⟩ ?_
  rintro m ts σ3 ⟨i, rfl, hil, hno, rfl, hts⟩
  refine AW.told hts ?_
  clear hts
  by_cases hi : i < l.length
  · have dci : decide ((i : Int) < (l.length : Int)) = true := decide_eq_true (by omega)
    have dci2 : ((i : Int) < (l.length : Int)) = True := by simp; omega
    have dci0 : ((0 : Int) ≤ (i : Int)) = True := by simp
    obtain ⟨x, hx⟩ : ∃ x, x = l[i] := ⟨_, rfl⟩
    have dcel : (l.map eK)[i]? = some (eK x) := by rw [List.getElem?_map, List.getElem?_eq_getElem hi, hx]; rfl
    rw [eK_eq] at dcel
    have dcw : IntKind.i64.wrap ((i : Int) + 1) = (i : Int) + 1 := wrap_i64 (by omega) (by omega)
    by_cases h1 : x.f3 < -1099511627776
    · have dc1 : decide (x.f3 < -1099511627776) = true := decide_eq_true h1
      repeat (first | (with_reducible refine AW.seq ?_) | (with_reducible refine AW.block ?_) | (with_reducible refine AW.skip ?_) | (with_reducible refine AW.ret ?_) | (with_reducible refine AW.exit ?_) | (with_reducible refine AW.reg hT ?_) | ((with_reducible refine AW.cond_true ?_ ?_); · rfl) | ((with_reducible refine AW.cond_false ?_ ?_); · rfl) | simp (maxSteps := 3000000) (maxDischargeDepth := 12) only [push_cast,appendX,reduceIte,reduceCtorEq,Nat.reduceSub,Nat.reduceAdd,Nat.reduceMul,Nat.reduceLT,Nat.reduceLeDiff,Nat.reduceEqDiff,Nat.reduceBEq,Int.reduceToNat,Int.reduceLT,Int.reduceLE,Int.reduceEq,Int.reduceNeg,Try.results10,dcml,dci,dci2,dci0,dcel,dcw,dc1])
      exact ⟨false, rfl, by simp⟩
    have dc1 : decide (x.f3 < -1099511627776) = false := decide_eq_false h1
    by_cases h2 : 1099511627776 < x.f3
    · have dc2 : decide (1099511627776 < x.f3) = true := decide_eq_true h2
      repeat (first | (with_reducible refine AW.seq ?_) | (with_reducible refine AW.block ?_) | (with_reducible refine AW.skip ?_) | (with_reducible refine AW.ret ?_) | (with_reducible refine AW.exit ?_) | (with_reducible refine AW.reg hT ?_) | ((with_reducible refine AW.cond_true ?_ ?_); · rfl) | ((with_reducible refine AW.cond_false ?_ ?_); · rfl) | simp (maxSteps := 3000000) (maxDischargeDepth := 12) only [push_cast,appendX,reduceIte,reduceCtorEq,Nat.reduceSub,Nat.reduceAdd,Nat.reduceMul,Nat.reduceLT,Nat.reduceLeDiff,Nat.reduceEqDiff,Nat.reduceBEq,Int.reduceToNat,Int.reduceLT,Int.reduceLE,Int.reduceEq,Int.reduceNeg,Try.results10,dcml,dci,dci2,dci0,dcel,dcw,dc1,dc2])
      exact ⟨false, rfl, by simp⟩
    have dc2 : decide (1099511627776 < x.f3) = false := decide_eq_false h2
    repeat (first | (with_reducible refine AW.seq ?_) | (with_reducible refine AW.block ?_) | (with_reducible refine AW.skip ?_) | (with_reducible refine AW.ret ?_) | (with_reducible refine AW.exit ?_) | (with_reducible refine AW.reg hT ?_) | ((with_reducible refine AW.cond_true ?_ ?_); · rfl) | ((with_reducible refine AW.cond_false ?_ ?_); · rfl) | simp (maxSteps := 3000000) (maxDischargeDepth := 12) only [push_cast,appendX,reduceIte,reduceCtorEq,Nat.reduceSub,Nat.reduceAdd,Nat.reduceMul,Nat.reduceLT,Nat.reduceLeDiff,Nat.reduceEqDiff,Nat.reduceBEq,Int.reduceToNat,Int.reduceLT,Int.reduceLE,Int.reduceEq,Int.reduceNeg,Try.results10,dcml,dci,dci2,dci0,dcel,dcw,dc1,dc2])
    refine ⟨l.length + 1 - (i + 1), by omega, i + 1, rfl, hi, fun y hy => ?_, rfl, by (simp only [push_cast, TellsL, tells_any, tells_refl])⟩
    rw [List.take_add_one, List.getElem?_eq_getElem hi, ← hx] at hy
    rcases List.mem_append.1 hy with hy | hy
    · exact hno y hy
    · simp at hy; rw [hy]; unfold okM; omega
  · have dci : decide ((i : Int) < (l.length : Int)) = false := decide_eq_false (by omega)
    rw [List.take_of_length_le (by omega)] at hno
    repeat (first | (with_reducible refine AW.seq ?_) | (with_reducible refine AW.block ?_) | (with_reducible refine AW.skip ?_) | (with_reducible refine AW.ret ?_) | (with_reducible refine AW.exit ?_) | (with_reducible refine AW.reg hT ?_) | ((with_reducible refine AW.cond_true ?_ ?_); · rfl) | ((with_reducible refine AW.cond_false ?_ ?_); · rfl) | simp (maxSteps := 3000000) (maxDischargeDepth := 12) only [push_cast,appendX,reduceIte,reduceCtorEq,Nat.reduceSub,Nat.reduceAdd,Nat.reduceMul,Nat.reduceLT,Nat.reduceLeDiff,Nat.reduceEqDiff,Nat.reduceBEq,Int.reduceToNat,Int.reduceLT,Int.reduceLE,Int.reduceEq,Int.reduceNeg,Try.results10,dcml,dci])
    exact ⟨_, rfl, fun h => ⟨hno, by have := of_decide_eq_true h; omega⟩⟩
def inI (r : List Int) (σ0 : Heap) (m : Nat) (ts : List DV) (σ : Heap) : Prop := ∃ i, m = r.length + 1 - i ∧ i ≤ r.length ∧ σ = σ0 ∧ TellsL ts (.imm (r.map eZ) :: .imm (r.map eZ) :: .any :: .any :: .any :: .sc (.int .i64 i) :: .any :: .any :: .any :: .any :: .any :: .any :: .any :: .any :: .any :: .any :: .any :: .any :: .any :: .any :: .any :: .any :: .any :: .any :: .any :: .any :: [])
theorem ints_ok (σ : Heap) (r : List Int) (hl : r.length ≤ 1000000) : ACalls Try.prog 20 [.imm (r.map eZ), .imm (r.map eZ)] σ (fun y σ' => y = .sc (.bool true) ∧ σ' = σ) := by
  have dcml : (r.map eZ).length = r.length := by simp
  refine ACalls.code hT Try.func20 rfl ?_
  simp only [Try.ntmps20, List.length_cons, List.length_nil, Nat.reduceSub, Nat.reduceAdd, List.replicate, List.cons_append, List.nil_append]
  repeat (first | (with_reducible refine AW.seq ?_) | (with_reducible refine AW.block ?_) | (with_reducible refine AW.skip ?_) | (with_reducible refine AW.ret ?_) | (with_reducible refine AW.exit ?_) | (with_reducible refine AW.reg hT ?_) | (with_reducible refine AW.drawn (id := 6) hT [0,1,2,3,4,5,6,7,8] [[],[],[0,1],[0,1,2],[],[],[4,5],[4,5,6],[0,1,2,3,4,5,6,7]] mix (by kernel_rfl) ?_) | ((with_reducible show DLeft _ _ _ _ (_ :: _) _ _ _ _); (with_reducible apply DLeft.step hT); (case hoi => ((simp only [List.getElem?_toArray,List.getElem?_cons_zero,List.getElem?_cons_succ]); with_reducible rfl)); (case hg => rfl); (case hk => rfl); (case hr => ((try simp (maxSteps := 3000000) (maxDischargeDepth := 12) only [push_cast,appendX,reduceIte,reduceCtorEq,Nat.reduceSub,Nat.reduceAdd,Nat.reduceMul,Nat.reduceLT,Nat.reduceLeDiff,Nat.reduceEqDiff,Nat.reduceBEq,Int.reduceToNat,Int.reduceLT,Int.reduceLE,Int.reduceEq,Int.reduceNeg,Try.results20,dcml]); with_reducible rfl))) | ((with_reducible refine AW.cond_true ?_ ?_); · rfl) | ((with_reducible refine AW.cond_false ?_ ?_); · rfl) | simp (maxSteps := 3000000) (maxDischargeDepth := 12) only [push_cast,appendX,reduceIte,reduceCtorEq,Nat.reduceSub,Nat.reduceAdd,Nat.reduceMul,Nat.reduceLT,Nat.reduceLeDiff,Nat.reduceEqDiff,Nat.reduceBEq,Int.reduceToNat,Int.reduceLT,Int.reduceLE,Int.reduceEq,Int.reduceNeg,Try.results20,dcml])
  refine AW.loop (inI r σ) (m := r.length + 1) ⟨0, rfl, Nat.zero_le _, rfl, by (simp only [push_cast, TellsL, tells_any, tells_refl])⟩ ?_
  rintro m ts σ3 ⟨i, rfl, hil, rfl, hts⟩
  refine AW.told hts ?_
  clear hts
  by_cases hi : i < r.length
  · have dci : decide ((i : Int) < (r.length : Int)) = true := decide_eq_true (by omega)
    have dci2 : ((i : Int) < (r.length : Int)) = True := by simp; omega
    have dci0 : ((0 : Int) ≤ (i : Int)) = True := by simp
    have dcel : (r.map eZ)[i]? = some [.sc (.int .i64 r[i])] := by rw [List.getElem?_map, List.getElem?_eq_getElem hi]; rfl
    have dcw : IntKind.i64.wrap ((i : Int) + 1) = (i : Int) + 1 := wrap_i64 (by omega) (by omega)
    have dcx : (r[i] != r[i]) = false := by simp
    repeat (first | (with_reducible refine AW.seq ?_) | (with_reducible refine AW.block ?_) | (with_reducible refine AW.skip ?_) | (with_reducible refine AW.ret ?_) | (with_reducible refine AW.exit ?_) | (with_reducible refine AW.reg hT ?_) | (with_reducible refine AW.drawn (id := 6) hT [0,1,2,3,4,5,6,7,8] [[],[],[0,1],[0,1,2],[],[],[4,5],[4,5,6],[0,1,2,3,4,5,6,7]] mix (by kernel_rfl) ?_) | ((with_reducible show DLeft _ _ _ _ (_ :: _) _ _ _ _); (with_reducible apply DLeft.step hT); (case hoi => ((simp only [List.getElem?_toArray,List.getElem?_cons_zero,List.getElem?_cons_succ]); with_reducible rfl)); (case hg => rfl); (case hk => rfl); (case hr => ((try simp (maxSteps := 3000000) (maxDischargeDepth := 12) only [push_cast,appendX,reduceIte,reduceCtorEq,Nat.reduceSub,Nat.reduceAdd,Nat.reduceMul,Nat.reduceLT,Nat.reduceLeDiff,Nat.reduceEqDiff,Nat.reduceBEq,Int.reduceToNat,Int.reduceLT,Int.reduceLE,Int.reduceEq,Int.reduceNeg,Try.results20,dcml,dci,dci2,dci0,dcel,dcw,dcx]); with_reducible rfl))) | ((with_reducible refine AW.cond_true ?_ ?_); · rfl) | ((with_reducible refine AW.cond_false ?_ ?_); · rfl) | simp (maxSteps := 3000000) (maxDischargeDepth := 12) only [push_cast,appendX,reduceIte,reduceCtorEq,Nat.reduceSub,Nat.reduceAdd,Nat.reduceMul,Nat.reduceLT,Nat.reduceLeDiff,Nat.reduceEqDiff,Nat.reduceBEq,Int.reduceToNat,Int.reduceLT,Int.reduceLE,Int.reduceEq,Int.reduceNeg,Try.results20,dcml,dci,dci2,dci0,dcel,dcw,dcx])
    exact ⟨r.length + 1 - (i + 1), by omega, i + 1, rfl, hi, rfl, by (simp only [push_cast, TellsL, tells_any, tells_refl])⟩
  · have dci : decide ((i : Int) < (r.length : Int)) = false := decide_eq_false (by omega)
    repeat (first | (with_reducible refine AW.seq ?_) | (with_reducible refine AW.block ?_) | (with_reducible refine AW.skip ?_) | (with_reducible refine AW.ret ?_) | (with_reducible refine AW.exit ?_) | (with_reducible refine AW.reg hT ?_) | (with_reducible refine AW.drawn (id := 6) hT [0,1,2,3,4,5,6,7,8] [[],[],[0,1],[0,1,2],[],[],[4,5],[4,5,6],[0,1,2,3,4,5,6,7]] mix (by kernel_rfl) ?_) | ((with_reducible show DLeft _ _ _ _ (_ :: _) _ _ _ _); (with_reducible apply DLeft.step hT); (case hoi => ((simp only [List.getElem?_toArray,List.getElem?_cons_zero,List.getElem?_cons_succ]); with_reducible rfl)); (case hg => rfl); (case hk => rfl); (case hr => ((try simp (maxSteps := 3000000) (maxDischargeDepth := 12) only [push_cast,appendX,reduceIte,reduceCtorEq,Nat.reduceSub,Nat.reduceAdd,Nat.reduceMul,Nat.reduceLT,Nat.reduceLeDiff,Nat.reduceEqDiff,Nat.reduceBEq,Int.reduceToNat,Int.reduceLT,Int.reduceLE,Int.reduceEq,Int.reduceNeg,Try.results20,dcml,dci]); with_reducible rfl))) | ((with_reducible refine AW.cond_true ?_ ?_); · rfl) | ((with_reducible refine AW.cond_false ?_ ?_); · rfl) | simp (maxSteps := 3000000) (maxDischargeDepth := 12) only [push_cast,appendX,reduceIte,reduceCtorEq,Nat.reduceSub,Nat.reduceAdd,Nat.reduceMul,Nat.reduceLT,Nat.reduceLeDiff,Nat.reduceEqDiff,Nat.reduceBEq,Int.reduceToNat,Int.reduceLT,Int.reduceLE,Int.reduceEq,Int.reduceNeg,Try.results20,dcml,dci])
def l3 : List Lk := [⟨0, 1, 0, 5, 0⟩, ⟨1, 2, 0, 7, 0⟩, ⟨1, 0, 0, 1, 0⟩]
theorem w3 : ∀ x ∈ l3, wK x := by
  intro x hx
  simp only [l3, List.mem_cons, List.not_mem_nil, or_false] at hx
  rcases hx with rfl | rfl | rfl <;> exact ⟨rfl, rfl, rfl, rfl, rfl⟩
theorem s3 : smallL l3 := by
  intro x hx
  simp only [l3, List.mem_cons, List.not_mem_nil, or_false] at hx
  rcases hx with rfl | rfl | rfl <;> simp
theorem chk33 : chk 3 l3 = 0 := by kernel_rfl
theorem chk23 : chk 2 l3 = 2 := by kernel_rfl
theorem fnd3 : fnd l3 1 2 = 1 := by kernel_rfl
theorem rt3a : rtv l3 [0, 1, 2] = (12, 0) := by kernel_rfl
theorem rt3b : rtv l3 [0, 1, 0] = (0, 12) := by kernel_rfl
theorem out3 : outsI l3 1 3 = [1, 2] := by kernel_rfl
theorem srt3 {S : List Nat} (h : S.Perm (outsI l3 1 l3.length)) (hp : S.Pairwise (Rk l3)) : S = [2, 1] := by
  rw [show l3.length = 3 from rfl, out3] at h
  have hl := h.length_eq
  match S, hl with
  | [a, b], _ =>
    have ha : a ∈ [1, 2] := h.mem_iff.1 (by simp)
    have hb : b ∈ [1, 2] := h.mem_iff.1 (by simp)
    have hR : Rk l3 a b := by simpa using hp
    have h1 : (1 : Nat) ∈ [a, b] := h.mem_iff.2 (by simp)
    have h2 : (2 : Nat) ∈ [a, b] := h.mem_iff.2 (by simp)
    simp only [List.mem_cons, List.not_mem_nil, or_false] at ha hb h1 h2
    have hk1 : key l3 1 = 2 := rfl
    have hk2 : key l3 2 = 0 := rfl
    rcases ha with rfl | rfl
    · rcases hb with rfl | rfl
      · omega
      · rw [Rk, hk1, hk2] at hR; omega
    · rcases hb with rfl | rfl
      · rfl
      · omega
theorem proute_hold (σ : Heap) (l : List Lk) (r : List Int) (hs : smallL l) (hl : l.length ≤ 1000000) {d : DV} (hh : Hold σ d 3 (r.map eZ)) : ACalls Try.prog 11 [.imm (l.map eK), d] σ (fun y σ' => y = .tup [.sc (.int .i64 (rtv l r).1), .sc (.int .i64 (rtv l r).2)] ∧ Ext (tOf d) σ σ') :=
  ACalls.holdArg (j := 1) hh rfl (fun σ1 x1 => (proute_ok σ1 l r hs hl).mono (fun y σ2 h => ⟨h.1, x1.trans (h.2.mono (by simp))⟩))
theorem ints_hold (σ : Heap) (r : List Int) (hl : r.length ≤ 1000000) {d : DV} (hh : Hold σ d 3 (r.map eZ)) : ACalls Try.prog 20 [.imm (r.map eZ), d] σ (fun y σ' => y = .sc (.bool true) ∧ Ext (tOf d) σ σ') :=
  ACalls.holdArg (j := 1) hh rfl (fun σ1 x1 => (ints_ok σ1 r hl).mono (fun y σ2 h => ⟨h.1, by rw [h.2]; exact x1⟩))
theorem alive_ok (σ : Heap) : ACalls Try.prog 9 [] σ (fun x σ' => x = .sc (.bool true) ∧ Ext [] σ σ') := by
  refine ACalls.code hT Try.func9 rfl ?_
  simp only [Try.ntmps9, List.length_cons, List.length_nil, Nat.reduceSub, Nat.reduceAdd, List.replicate, List.cons_append, List.nil_append]
  repeat ((fail_if_success (with_reducible refine AW.at1 (id := 2) ?_)); (fail_if_success (with_reducible refine AW.at2 (id := 2) ?_)); first | (with_reducible refine AW.seq ?_) | (with_reducible refine AW.block ?_) | (with_reducible refine AW.skip ?_) | (with_reducible refine AW.ret ?_) | (with_reducible refine AW.exit ?_) | (with_reducible refine AW.reg hT ?_) | ((with_reducible refine AW.cond_true ?_ ?_); · rfl) | ((with_reducible refine AW.cond_false ?_ ?_); · rfl) | simp (maxSteps := 3000000) (maxDischargeDepth := 12) only [push_cast,appendX,reduceIte,reduceCtorEq,Nat.reduceSub,Nat.reduceAdd,Nat.reduceMul,Nat.reduceLT,Nat.reduceLeDiff,Nat.reduceEqDiff,Nat.reduceBEq,Int.reduceToNat,Int.reduceLT,Int.reduceLE,Int.reduceEq,Int.reduceNeg,Try.results9])
  refine AW.holdSlot (j := 1) (els := l3.map eK) (e := 43) (Hold.row (els := l3.map eK) (t := σ.n) (by simp (maxSteps := 3000000) (maxDischargeDepth := 12) only [push_cast, appendX, Nat.reduceAdd, Nat.reduceEqDiff, Nat.reduceLT, Nat.reduceLeDiff, reduceIte, reduceCtorEq, l3, eK_eq, List.map_cons, List.map_nil])) rfl (fun σ1 xt1 => ?_)
  simp only [tOf] at xt1
  have xt2 : Ext [] σ σ1 := Ext.then1 xt1 (by repeat (first | exact Ext.refl _ _ | assumption | refine Ext.push ?_ _ | ((refine Ext.set ?_ ?_ _); rotate_left; · (simp (maxSteps := 3000000) (maxDischargeDepth := 12) only [push_cast, appendX, Nat.reduceAdd, Nat.reduceEqDiff, Nat.reduceLT, Nat.reduceLeDiff, reduceIte, reduceCtorEq])) | ((refine Ext.then1 (by assumption) ?_ ?_); rotate_left; · (intro p hp _; first | assumption | exact List.mem_cons_of_mem _ hp | (cases hp; done) | (simp at hp; subst hp; simp))))) (by intro p hp; simp at hp; omega)
  clear xt1
  simp only [List.set_cons_succ, List.set_cons_zero]
  repeat (first | (with_reducible refine AW.seq ?_) | (with_reducible refine AW.block ?_) | (with_reducible refine AW.skip ?_) | (with_reducible refine AW.ret ?_) | (with_reducible refine AW.exit ?_) | (with_reducible refine AW.reg hT ?_) | ((with_reducible refine AW.cond_true ?_ ?_); · rfl) | ((with_reducible refine AW.cond_false ?_ ?_); · rfl) | simp (maxSteps := 3000000) (maxDischargeDepth := 12) only [push_cast,appendX,reduceIte,reduceCtorEq,Nat.reduceSub,Nat.reduceAdd,Nat.reduceMul,Nat.reduceLT,Nat.reduceLeDiff,Nat.reduceEqDiff,Nat.reduceBEq,Int.reduceToNat,Int.reduceLT,Int.reduceLE,Int.reduceEq,Int.reduceNeg,Try.results9,xt2.2,xt2.ltT,xt2.leT])
  refine AOpsL.call (first := []) (cap := []) hT rfl rfl rfl fn11 rfl (ACalls.mono (proute_hold _ l3 [0, 1, 2] s3 (by decide) (Hold.row (els := ([0, 1, 2] : List Int).map eZ) (t := σ1.n) (by simp (maxSteps := 3000000) (maxDischargeDepth := 12) only [push_cast, appendX, Nat.reduceAdd, Nat.reduceEqDiff, Nat.reduceLT, Nat.reduceLeDiff, reduceIte, reduceCtorEq, eZ, List.map_cons, List.map_nil, xt2.2, xt2.ltT, xt2.leT]))) ?_)
  rw [rt3a]
  rintro y σ2 ⟨rfl, xt3⟩
  have xt4 : Ext [] σ σ2 := (xt2.push _).then xt3 (by intro p hp hl; simp [tOf] at hp; have := xt2.1; omega)
  clear xt2 xt3
  repeat (first | (with_reducible refine AW.seq ?_) | (with_reducible refine AW.block ?_) | (with_reducible refine AW.skip ?_) | (with_reducible refine AW.ret ?_) | (with_reducible refine AW.exit ?_) | (with_reducible refine AW.reg hT ?_) | ((with_reducible refine AW.cond_true ?_ ?_); · rfl) | ((with_reducible refine AW.cond_false ?_ ?_); · rfl) | simp (maxSteps := 3000000) (maxDischargeDepth := 12) only [push_cast,appendX,reduceIte,reduceCtorEq,Nat.reduceSub,Nat.reduceAdd,Nat.reduceMul,Nat.reduceLT,Nat.reduceLeDiff,Nat.reduceEqDiff,Nat.reduceBEq,Int.reduceToNat,Int.reduceLT,Int.reduceLE,Int.reduceEq,Int.reduceNeg,Try.results9,xt4.2,xt4.ltT,xt4.leT])
  refine AOpsL.call (first := []) (cap := []) hT rfl rfl rfl fn11 rfl (ACalls.mono (proute_hold _ l3 [0, 1, 0] s3 (by decide) (Hold.row (els := ([0, 1, 0] : List Int).map eZ) (t := σ2.n) (by simp (maxSteps := 3000000) (maxDischargeDepth := 12) only [push_cast, appendX, Nat.reduceAdd, Nat.reduceEqDiff, Nat.reduceLT, Nat.reduceLeDiff, reduceIte, reduceCtorEq, eZ, List.map_cons, List.map_nil, xt4.2, xt4.ltT, xt4.leT]))) ?_)
  rw [rt3b]
  rintro y σ3 ⟨rfl, xt5⟩
  have xt6 : Ext [] σ σ3 := (xt4.push _).then xt5 (by intro p hp hl; simp [tOf] at hp; have := xt4.1; omega)
  clear xt4 xt5
  repeat (first | (with_reducible refine AW.seq ?_) | (with_reducible refine AW.block ?_) | (with_reducible refine AW.skip ?_) | (with_reducible refine AW.ret ?_) | (with_reducible refine AW.exit ?_) | (with_reducible refine AW.reg hT ?_) | ((with_reducible refine AW.cond_true ?_ ?_); · rfl) | ((with_reducible refine AW.cond_false ?_ ?_); · rfl) | simp (maxSteps := 3000000) (maxDischargeDepth := 12) only [push_cast,appendX,reduceIte,reduceCtorEq,Nat.reduceSub,Nat.reduceAdd,Nat.reduceMul,Nat.reduceLT,Nat.reduceLeDiff,Nat.reduceEqDiff,Nat.reduceBEq,Int.reduceToNat,Int.reduceLT,Int.reduceLE,Int.reduceEq,Int.reduceNeg,Try.results9,xt6.2,xt6.ltT,xt6.leT])
  refine AOpsL.call (first := []) (cap := []) hT rfl rfl rfl fn15 rfl (ACalls.mono (pcheck_ok _ 3 l3 w3) ?_)
  rw [chk33]
  rintro y σ4 ⟨rfl, xt7⟩
  have xt8 := xt6.trans xt7
  clear xt6 xt7
  repeat (first | (with_reducible refine AW.seq ?_) | (with_reducible refine AW.block ?_) | (with_reducible refine AW.skip ?_) | (with_reducible refine AW.ret ?_) | (with_reducible refine AW.exit ?_) | (with_reducible refine AW.reg hT ?_) | ((with_reducible refine AW.cond_true ?_ ?_); · rfl) | ((with_reducible refine AW.cond_false ?_ ?_); · rfl) | simp (maxSteps := 3000000) (maxDischargeDepth := 12) only [push_cast,appendX,reduceIte,reduceCtorEq,Nat.reduceSub,Nat.reduceAdd,Nat.reduceMul,Nat.reduceLT,Nat.reduceLeDiff,Nat.reduceEqDiff,Nat.reduceBEq,Int.reduceToNat,Int.reduceLT,Int.reduceLE,Int.reduceEq,Int.reduceNeg,Try.results9,xt8.2,xt8.ltT,xt8.leT])
  refine AOpsL.call (first := []) (cap := []) hT rfl rfl rfl fn15 rfl (ACalls.mono (pcheck_ok _ 2 l3 w3) ?_)
  rw [chk23]
  rintro y σ5 ⟨rfl, xt9⟩
  have xtA := xt8.trans xt9
  clear xt8 xt9
  repeat (first | (with_reducible refine AW.seq ?_) | (with_reducible refine AW.block ?_) | (with_reducible refine AW.skip ?_) | (with_reducible refine AW.ret ?_) | (with_reducible refine AW.exit ?_) | (with_reducible refine AW.reg hT ?_) | ((with_reducible refine AW.cond_true ?_ ?_); · rfl) | ((with_reducible refine AW.cond_false ?_ ?_); · rfl) | simp (maxSteps := 3000000) (maxDischargeDepth := 12) only [push_cast,appendX,reduceIte,reduceCtorEq,Nat.reduceSub,Nat.reduceAdd,Nat.reduceMul,Nat.reduceLT,Nat.reduceLeDiff,Nat.reduceEqDiff,Nat.reduceBEq,Int.reduceToNat,Int.reduceLT,Int.reduceLE,Int.reduceEq,Int.reduceNeg,Try.results9,xtA.2,xtA.ltT,xtA.leT])
  refine AOpsL.call (first := []) (cap := []) hT rfl rfl rfl fn18 rfl (ACalls.mono (pfind_ok _ l3 1 2 (by decide)) ?_)
  rw [fnd3]
  rintro y σ6 ⟨rfl, xtB⟩
  have xtC := xtA.trans xtB
  clear xtA xtB
  repeat (first | (with_reducible refine AW.seq ?_) | (with_reducible refine AW.block ?_) | (with_reducible refine AW.skip ?_) | (with_reducible refine AW.ret ?_) | (with_reducible refine AW.exit ?_) | (with_reducible refine AW.reg hT ?_) | ((with_reducible refine AW.cond_true ?_ ?_); · rfl) | ((with_reducible refine AW.cond_false ?_ ?_); · rfl) | simp (maxSteps := 3000000) (maxDischargeDepth := 12) only [push_cast,appendX,reduceIte,reduceCtorEq,Nat.reduceSub,Nat.reduceAdd,Nat.reduceMul,Nat.reduceLT,Nat.reduceLeDiff,Nat.reduceEqDiff,Nat.reduceBEq,Int.reduceToNat,Int.reduceLT,Int.reduceLE,Int.reduceEq,Int.reduceNeg,Try.results9,xtC.2,xtC.ltT,xtC.leT])
  refine AOpsL.call (first := []) (cap := []) hT rfl rfl rfl fn16 rfl (ACalls.mono (outs_ok _ l3 1 (by rw [show l3.length = 3 from rfl, out3]; decide) (by decide)) ?_)
  rintro y σ7 ⟨S, ⟨hS1, hS2⟩, rfl, xtD⟩
  rw [srt3 hS1 hS2]
  have xtE := xtC.trans xtD
  clear xtC xtD
  have hz : ([2, 1] : List Nat).map eI = ([2, 1] : List Int).map eZ := rfl
  rw [hz]
  repeat (first | (with_reducible refine AW.seq ?_) | (with_reducible refine AW.block ?_) | (with_reducible refine AW.skip ?_) | (with_reducible refine AW.ret ?_) | (with_reducible refine AW.exit ?_) | (with_reducible refine AW.reg hT ?_) | ((with_reducible refine AW.cond_true ?_ ?_); · rfl) | ((with_reducible refine AW.cond_false ?_ ?_); · rfl) | simp (maxSteps := 3000000) (maxDischargeDepth := 12) only [push_cast,appendX,reduceIte,reduceCtorEq,Nat.reduceSub,Nat.reduceAdd,Nat.reduceMul,Nat.reduceLT,Nat.reduceLeDiff,Nat.reduceEqDiff,Nat.reduceBEq,Int.reduceToNat,Int.reduceLT,Int.reduceLE,Int.reduceEq,Int.reduceNeg,Try.results9,xtE.2,xtE.ltT,xtE.leT])
  refine AOpsL.call (first := []) (cap := []) hT rfl rfl rfl fn20 rfl (ACalls.mono (ints_hold _ [2, 1] (by decide) (Hold.row (els := ([2, 1] : List Int).map eZ) (t := σ7.n) (by simp (maxSteps := 3000000) (maxDischargeDepth := 12) only [push_cast, appendX, Nat.reduceAdd, Nat.reduceEqDiff, Nat.reduceLT, Nat.reduceLeDiff, reduceIte, reduceCtorEq, eZ, List.map_cons, List.map_nil, xtE.2, xtE.ltT, xtE.leT]))) ?_)
  rintro y σ8 ⟨rfl, xtF⟩
  have xtG : Ext [] σ σ8 := (xtE.push _).then xtF (by intro p hp hl; simp [tOf] at hp; have := xtE.1; omega)
  clear xtE xtF
  repeat (first | (with_reducible refine AW.seq ?_) | (with_reducible refine AW.block ?_) | (with_reducible refine AW.skip ?_) | (with_reducible refine AW.ret ?_) | (with_reducible refine AW.exit ?_) | (with_reducible refine AW.reg hT ?_) | ((with_reducible refine AW.cond_true ?_ ?_); · rfl) | ((with_reducible refine AW.cond_false ?_ ?_); · rfl) | simp (maxSteps := 3000000) (maxDischargeDepth := 12) only [push_cast,appendX,reduceIte,reduceCtorEq,Nat.reduceSub,Nat.reduceAdd,Nat.reduceMul,Nat.reduceLT,Nat.reduceLeDiff,Nat.reduceEqDiff,Nat.reduceBEq,Int.reduceToNat,Int.reduceLT,Int.reduceLE,Int.reduceEq,Int.reduceNeg,Try.results9,xtG.2,xtG.ltT,xtG.leT])
  refine AOpsL.call (first := []) (cap := []) hT rfl rfl rfl fn13 rfl (ACalls.mono (reach_ok _ 3 l3 2 w3) ?_)
  rintro y σ9 ⟨out, ho, rfl, xtH⟩
  have dcol : (out.map eB).length = 3 := by
    have := (ho.2 ⟨chk33, by decide, by decide⟩).1
    simp; omega
  repeat (first | (with_reducible refine AW.seq ?_) | (with_reducible refine AW.block ?_) | (with_reducible refine AW.skip ?_) | (with_reducible refine AW.ret ?_) | (with_reducible refine AW.exit ?_) | (with_reducible refine AW.reg hT ?_) | ((with_reducible refine AW.cond_true ?_ ?_); · rfl) | ((with_reducible refine AW.cond_false ?_ ?_); · rfl) | simp (maxSteps := 3000000) (maxDischargeDepth := 12) only [push_cast,appendX,reduceIte,reduceCtorEq,Nat.reduceSub,Nat.reduceAdd,Nat.reduceMul,Nat.reduceLT,Nat.reduceLeDiff,Nat.reduceEqDiff,Nat.reduceBEq,Int.reduceToNat,Int.reduceLT,Int.reduceLE,Int.reduceEq,Int.reduceNeg,Try.results9,xtG.2,xtG.ltT,xtG.leT,xtH.2,xtH.ltT,xtH.leT,dcol])
  exact ⟨rfl, xtG.trans xtH⟩
end Go.Proofs.Ytpigelcckiejiaa.Cm
