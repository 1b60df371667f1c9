/- The document's Reach. -/
import Derived.Test.YtpigelcckiejiaaGF1
import Derived.Test.YtpigelcckiejiaaGR1
namespace Go.Proofs.Ytpigelcckiejiaa.Cm
open Go.RowKit
set_option linter.unusedVariables false
set_option linter.unusedSimpArgs false
set_option maxRecDepth 20000
set_option maxHeartbeats 8000000
def closedO (l : List Lk) (out : List Bool) : Prop := ∀ x ∈ l, out[x.f0.toNat]? = some true → out[x.f1.toNat]? = some true
/-- What holds of the marks in the middle of a round. -/
def RI (l : List Lk) (a : Int) (out0 out : List Bool) (i : Nat) : Prop :=
  (out = out0 ∨ cntF out < cntF out0) ∧ (∀ j x, j < i → l[j]? = some x → out0[x.f0.toNat]? = some true → out[x.f1.toNat]? = some true) ∧ (∀ v : Nat, out0[v]? = some true → out[v]? = some true) ∧ (closedO l out0 → out = out0) ∧ (∀ v : Nat, out[v]? = some true → Rc l a v) ∧ out.length = out0.length
theorem RI.start {l : List Lk} {a : Int} {out : List Bool} (h : ∀ v : Nat, out[v]? = some true → Rc l a v) : RI l a out out 0 := ⟨.inl rfl, fun j x hj => by omega, fun _ h => h, fun _ => rfl, h, rfl⟩
theorem RI.skip {l : List Lk} {a : Int} {out0 out : List Bool} {i : Nat} (h : RI l a out0 out i) {x : Lk} (hx : l[i]? = some x) (hb : out[x.f0.toNat]? ≠ some true) : RI l a out0 out (i + 1) := by
  obtain ⟨h1, h2, h3, h4, h5, h6⟩ := h
  refine ⟨h1, fun j y hj hy hyo => ?_, h3, h4, h5, h6⟩
  by_cases hji : j < i
  · exact h2 j y hji hy hyo
  · have : j = i := by omega
    subst this
    rw [hx] at hy; cases hy
    exact absurd (h3 _ hyo) hb
theorem RI.mark {l : List Lk} {a : Int} {out0 out : List Bool} {i w : Nat} (h : RI l a out0 out i) {x : Lk} (hx : l[i]? = some x) (h0 : 0 ≤ x.f0) (hw1 : x.f1 = w) (hwl : w < out.length) (hb : out[x.f0.toNat]? = some true) : RI l a out0 (out.set w true) (i + 1) := by
  obtain ⟨h1, h2, h3, h4, h5, h6⟩ := h
  have hst : ∀ u : Nat, out[u]? = some true → (out.set w true)[u]? = some true := fun u hu => by
    by_cases hwu : w = u
    · subst hwu; exact List.getElem?_set_self hwl
    · rw [List.getElem?_set_ne hwu]; exact hu
  have hxl := List.mem_of_getElem? hx
  have hb2 : ∀ j y, j < i + 1 → l[j]? = some y → out0[y.f0.toNat]? = some true → (out.set w true)[y.f1.toNat]? = some true := fun j y hj hy hyo => by
    by_cases hji : j < i
    · exact hst _ (h2 j y hji hy hyo)
    · have : j = i := by omega
      subst this
      rw [hx] at hy; cases hy
      rw [hw1, Int.toNat_natCast]; exact List.getElem?_set_self hwl
  have hrc : ∀ v : Nat, (out.set w true)[v]? = some true → Rc l a v := fun v hv => by
    by_cases hwv : w = v
    · subst hwv
      have := Rc.step hxl (show Rc l a x.f0 by
        have h8 := h5 _ hb
        have h9 : ((x.f0.toNat : Nat) : Int) = x.f0 := by omega
        rw [h9] at h8; exact h8)
      rw [hw1] at this; exact this
    · rw [List.getElem?_set_ne hwv] at hv; exact h5 v hv
  cases hbw : out[w]'hwl with
  | true =>
    have he : out.set w true = out := by
      apply List.ext_getElem?
      intro u
      by_cases hwu : w = u
      · subst hwu; rw [List.getElem?_set_self hwl, List.getElem?_eq_getElem hwl, hbw]
      · rw [List.getElem?_set_ne hwu]
    rw [he] at hb2 hrc ⊢
    exact ⟨h1, hb2, h3, h4, hrc, h6⟩
  | false =>
    have hc : cntF (out.set w true) + 1 = cntF out := cntF_set (by rw [List.getElem?_eq_getElem hwl, hbw])
    refine ⟨.inr ?_, hb2, fun v hv => hst v (h3 v hv), fun hcl => ?_, hrc, by rw [List.length_set]; exact h6⟩
    · rcases h1 with h1 | h1
      · rw [h1] at hc ⊢; omega
      · omega
    · have he := h4 hcl
      exfalso
      have := hcl x hxl (by rw [← he]; exact hb)
      rw [hw1, Int.toNat_natCast, ← he, List.getElem?_eq_getElem hwl, hbw] at this
      cases this
theorem RI.round {l : List Lk} {a : Int} {out0 out : List Bool} {n k : Nat} (h : RI l a out0 out l.length) (hk : closedO l out0 ∨ cntF out0 + k < n) : closedO l out ∨ cntF out + (k + 1) < n := by
  obtain ⟨h1, h2, h3, h4, h5, h6⟩ := h
  rcases h1 with h1 | h1
  · left
    intro x hx hxo
    obtain ⟨j, hj⟩ := List.mem_iff_getElem?.1 hx
    exact h2 j x (List.getElem?_eq_some_iff.1 hj).1 hj (by rw [← h1]; exact hxo)
  · rcases hk with hk | hk
    · rw [h4 hk] at h1; omega
    · right; omega
def rrI1 (nn : Nat) (l : List Lk) (a : Int) (tb : Nat) (σ0 : Heap) (m : Nat) (ts : List DV) (σ : Heap) : Prop := ∃ (k : Nat) (out : List Bool), m = nn + 1 - k ∧ k ≤ nn ∧ out.length = nn ∧ (closedO l out ∨ cntF out + k < nn) ∧ (∀ v : Nat, out[v]? = some true → Rc l a v) ∧ out[a.toNat]? = some true ∧ σ.get tb = some ⟨out.map eB, 4, true⟩ ∧ Ext [] σ0 σ ∧ TellsL ts (.sc (.int .i64 nn) :: .imm (l.map eK) :: .any :: .any :: .any :: .any :: .any :: .sl tb 0 nn nn :: .sc (.int .i64 k) :: .any :: .any :: .any :: .any :: .any :: .any :: .any :: .any :: .any :: .any :: .any :: .any :: .any :: .any :: .any :: .any :: .any :: .any :: .any :: .any :: .any :: .any :: .any :: .any :: .any :: .any :: .any :: .any :: .any :: .any :: .any :: .any :: .any :: .any :: .any :: .any :: .any :: .any :: .any :: .any :: .any :: .any :: .any :: .any :: .any :: .any :: [])
def rrJ1 (nn : Nat) (l : List Lk) (a : Int) (out0 : List Bool) (k : Nat) (tb : Nat) (σ0 : Heap) (m : Nat) (ts : List DV) (σ : Heap) : Prop := ∃ (i : Nat) (out : List Bool), m = l.length + 1 - i ∧ i ≤ l.length ∧ RI l a out0 out i ∧ σ.get tb = some ⟨out.map eB, 4, true⟩ ∧ Ext [] σ0 σ ∧ TellsL ts (.sc (.int .i64 nn) :: .imm (l.map eK) :: .any :: .any :: .any :: .any :: .any :: .sl tb 0 nn nn :: .sc (.int .i64 k) :: .sc (.int .i64 i) :: .any :: .any :: .any :: .any :: .any :: .any :: .any :: .any :: .any :: .any :: .any :: .any :: .any :: .any :: .any :: .any :: .any :: .any :: .any :: .any :: .any :: .any :: .any :: .any :: .any :: .any :: .any :: .any :: .any :: .any :: .any :: .any :: .any :: .any :: .any :: .any :: .any :: .any :: .any :: .any :: .any :: .any :: .any :: .any :: .any :: [])
theorem rreach_ok (σ : Heap) (n : Int) (l : List Lk) (a : Int) : ACalls Try.prog 14 [.sc (.int .i64 n), .imm (l.map eK), .sc (.int .i64 a)] σ (fun y σ' => ∃ out, RchOk n l a out ∧ y = .imm (out.map eB) ∧ Ext [] σ σ') := by
  have dcml : (l.map eK).length = l.length := by simp
  refine toImmE (e := 4) ?_
  refine ACalls.code hT Try.func14 rfl ?_
  simp only [Try.ntmps14, List.length_cons, List.length_nil, Nat.reduceSub, Nat.reduceAdd, List.replicate, List.cons_append, List.nil_append]
  repeat (first | (with_reducible refine AW.seq ?_) | (with_reducible refine AW.block ?_) | (with_reducible refine AW.skip ?_) | (with_reducible refine AW.ret ?_) | (with_reducible refine AW.exit ?_) | (with_reducible refine AW.reg hT ?_) | ((with_reducible refine AW.cond_true ?_ ?_); · rfl) | ((with_reducible refine AW.cond_false ?_ ?_); · rfl) | simp (maxSteps := 3000000) (maxDischargeDepth := 12) only [push_cast,appendX,reduceIte,reduceCtorEq,Nat.reduceSub,Nat.reduceAdd,Nat.reduceMul,Nat.reduceLT,Nat.reduceLeDiff,Nat.reduceEqDiff,Nat.reduceBEq,Int.reduceToNat,Int.reduceLT,Int.reduceLE,Int.reduceEq,Int.reduceNeg,Try.results14,dcml])
  refine AOpsL.call (first := []) (cap := []) hT rfl rfl rfl fn17 rfl (ACalls.mono (rcheck_ok _ n l) ?_)
  rintro y σ1 ⟨rfl, xt1⟩
  by_cases hc : chk n l = 0
  · have dcc : (chk n l == 0) = true := by simpa using hc
    by_cases ha : a < 0
    · have dca : decide (a < 0) = true := decide_eq_true ha
      repeat (first | (with_reducible refine AW.seq ?_) | (with_reducible refine AW.block ?_) | (with_reducible refine AW.skip ?_) | (with_reducible refine AW.ret ?_) | (with_reducible refine AW.exit ?_) | (with_reducible refine AW.reg hT ?_) | ((with_reducible refine AW.cond_true ?_ ?_); · rfl) | ((with_reducible refine AW.cond_false ?_ ?_); · rfl) | simp (maxSteps := 3000000) (maxDischargeDepth := 12) only [push_cast,appendX,reduceIte,reduceCtorEq,Nat.reduceSub,Nat.reduceAdd,Nat.reduceMul,Nat.reduceLT,Nat.reduceLeDiff,Nat.reduceEqDiff,Nat.reduceBEq,Int.reduceToNat,Int.reduceLT,Int.reduceLE,Int.reduceEq,Int.reduceNeg,Try.results14,dcml,xt1.2,xt1.ltT,xt1.leT,dcc,dca])
      exact ⟨[], ⟨fun _ => rfl, fun h => by omega⟩, Hold.nil _ _, by simp [tOf], xt1⟩
    have dca : decide (a < 0) = false := decide_eq_false ha
    by_cases hn : n ≤ a
    · have dcn : decide (n ≤ a) = true := decide_eq_true hn
      repeat (first | (with_reducible refine AW.seq ?_) | (with_reducible refine AW.block ?_) | (with_reducible refine AW.skip ?_) | (with_reducible refine AW.ret ?_) | (with_reducible refine AW.exit ?_) | (with_reducible refine AW.reg hT ?_) | ((with_reducible refine AW.cond_true ?_ ?_); · rfl) | ((with_reducible refine AW.cond_false ?_ ?_); · rfl) | simp (maxSteps := 3000000) (maxDischargeDepth := 12) only [push_cast,appendX,reduceIte,reduceCtorEq,Nat.reduceSub,Nat.reduceAdd,Nat.reduceMul,Nat.reduceLT,Nat.reduceLeDiff,Nat.reduceEqDiff,Nat.reduceBEq,Int.reduceToNat,Int.reduceLT,Int.reduceLE,Int.reduceEq,Int.reduceNeg,Try.results14,dcml,xt1.2,xt1.ltT,xt1.leT,dcc,dca,dcn])
      exact ⟨[], ⟨fun _ => rfl, fun h => by omega⟩, Hold.nil _ _, by simp [tOf], xt1⟩
    have dcn : decide (n ≤ a) = false := decide_eq_false hn
    obtain ⟨⟨hk, _⟩, hn1, hn16, hl64⟩ := ck_of hc
    obtain ⟨nn, rfl⟩ := Int.eq_ofNat_of_zero_le (show 0 ≤ n by omega)
    obtain ⟨aa, rfl⟩ := Int.eq_ofNat_of_zero_le (show 0 ≤ a by omega)
    have dcnn0 : ((0 : Int) ≤ (nn : Int)) = True := by simp
    have dca1 : ((aa : Int) < (nn : Int)) = True := by simp; omega
    have dca0 : ((0 : Int) ≤ (aa : Int)) = True := by simp
    have dcnb : (nn * 2 ≤ 140737488355328) = True := by simp; omega
    obtain ⟨out0, hout0⟩ : ∃ o, o = List.replicate nn false := ⟨_, rfl⟩
    have dcr : List.replicate nn [DV.sc (.bool false)] = out0.map eB := by rw [hout0, List.map_replicate]; rfl
    have dcol : (out0.map eB).length = nn := by rw [hout0]; simp
    have dco : (out0.map eB)[aa]? = some [.sc (.bool false)] := by rw [hout0]; simp [eB, List.getElem?_replicate]; omega
    have hset : (out0.map eB).set aa [.sc (.bool true)] = (out0.set aa true).map eB := by simp [List.map_set, eB]
    have hol : out0.length = nn := by simpa using dcol
    have ho0 : ∀ v : Nat, (out0.set aa true)[v]? = some true → v = aa := by
      intro v hv
      by_cases hva : aa = v
      · exact hva.symm
      · rw [List.getElem?_set_ne hva, hout0, List.getElem?_replicate] at hv
        split at hv
        · cases hv
        · cases hv
    have hcf : cntF (out0.set aa true) + 1 = cntF out0 := cntF_set (by rw [hout0, List.getElem?_replicate, if_pos (by omega)])
    have hcl : cntF out0 ≤ out0.length := List.count_le_length
    repeat (first | (with_reducible refine AW.seq ?_) | (with_reducible refine AW.block ?_) | (with_reducible refine AW.skip ?_) | (with_reducible refine AW.ret ?_) | (with_reducible refine AW.exit ?_) | (with_reducible refine AW.reg hT ?_) | ((with_reducible refine AW.cond_true ?_ ?_); · rfl) | ((with_reducible refine AW.cond_false ?_ ?_); · rfl) | simp (maxSteps := 3000000) (maxDischargeDepth := 12) only [push_cast,appendX,reduceIte,reduceCtorEq,Nat.reduceSub,Nat.reduceAdd,Nat.reduceMul,Nat.reduceLT,Nat.reduceLeDiff,Nat.reduceEqDiff,Nat.reduceBEq,Int.reduceToNat,Int.reduceLT,Int.reduceLE,Int.reduceEq,Int.reduceNeg,Try.results14,dcml,xt1.2,xt1.ltT,xt1.leT,dcc,dca,dcn,dcnn0,dca1,dca0,dcnb,dcr,dcol,dco])
    refine AW.loop (rrI1 nn l aa σ1.n σ) (m := nn + 1) ⟨0, out0.set aa true, rfl, Nat.zero_le _, by simp [hol], .inr (by omega), fun v hv => by rw [ho0 v hv]; exact .start, by rw [Int.toNat_natCast, List.getElem?_set_self (by omega)], by rw [← hset]; simp (maxSteps := 3000000) (maxDischargeDepth := 12) only [push_cast, appendX, Nat.reduceAdd, Nat.reduceEqDiff, Nat.reduceLT, Nat.reduceLeDiff, reduceIte, reduceCtorEq, dcml, xt1.2, xt1.ltT, xt1.leT, dcc, dca, dcn, dcnn0, dca1, dca0, dcnb, dcr, dcol, dco], by repeat (first | exact Ext.refl _ _ | assumption | refine Ext.push ?_ _ | ((refine Ext.set ?_ ?_ _); rotate_left; · (simp (maxSteps := 3000000) (maxDischargeDepth := 12) only [push_cast, appendX, Nat.reduceAdd, Nat.reduceEqDiff, Nat.reduceLT, Nat.reduceLeDiff, reduceIte, reduceCtorEq, dcml, xt1.2, xt1.ltT, xt1.leT, dcc, dca, dcn, dcnn0, dca1, dca0, dcnb, dcr, dcol, dco])) | ((refine Ext.then1 (by assumption) ?_ ?_); rotate_left; · (intro p hp _; first | assumption | exact List.mem_cons_of_mem _ hp | (cases hp; done) | (simp at hp; subst hp; simp)))), by (simp only [push_cast, TellsL, tells_any, tells_refl])⟩ ?_
    have htb : σ.n ≤ σ1.n := xt1.1
    generalize σ1.n = tb at htb ⊢
    clear xt1 dcr dco dcol hset ho0 hol hout0 hcf hcl
    rintro m ts σ3 ⟨k, out, rfl, hkn, hol, hcl, hrc, haa, gtb, xt3, hts⟩
    refine AW.told hts ?_
    clear hts
    by_cases hkk : k < nn
    · have dck : decide ((k : Int) < (nn : Int)) = true := decide_eq_true (by omega)
      have dcwk : IntKind.i64.wrap ((k : Int) + 1) = (k : Int) + 1 := wrap_i64 (by omega) (by omega)
      repeat (first | (with_reducible refine AW.seq ?_) | (with_reducible refine AW.block ?_) | (with_reducible refine AW.skip ?_) | (with_reducible refine AW.ret ?_) | (with_reducible refine AW.exit ?_) | (with_reducible refine AW.reg hT ?_) | ((with_reducible refine AW.cond_true ?_ ?_); · rfl) | ((with_reducible refine AW.cond_false ?_ ?_); · rfl) | simp (maxSteps := 3000000) (maxDischargeDepth := 12) only [push_cast,appendX,reduceIte,reduceCtorEq,Nat.reduceSub,Nat.reduceAdd,Nat.reduceMul,Nat.reduceLT,Nat.reduceLeDiff,Nat.reduceEqDiff,Nat.reduceBEq,Int.reduceToNat,Int.reduceLT,Int.reduceLE,Int.reduceEq,Int.reduceNeg,Try.results14,dcml,dcc,dca,dcn,dcnn0,dca1,dca0,dcnb,gtb,Heap.lt gtb,xt3.2,xt3.ltT,xt3.leT,dck,dcwk])
      refine AW.loop (rrJ1 nn l aa out k tb σ) (m := l.length + 1) ⟨0, out, rfl, Nat.zero_le _, RI.start hrc, gtb, xt3, by (simp only [push_cast, TellsL, tells_any, tells_refl])⟩ ?_
      clear gtb xt3
      rintro m ts σ4 ⟨i, out1, rfl, hil, hri, gtb4, xt4, hts⟩
      refine AW.told hts ?_
      clear hts
      have hlb := Heap.lt gtb4
      have hol1 : out1.length = nn := hri.2.2.2.2.2.trans hol
      by_cases hi : i < l.length
      · have dci : decide ((i : Int) < (l.length : Int)) = true := decide_eq_true (by omega)
        have dci2 : ((i : Int) < (l.length : Int)) = True := by simp; omega
        have dci0 : ((0 : Int) ≤ (i : Int)) = True := by simp
        have dcwi : IntKind.i64.wrap ((i : Int) + 1) = (i : Int) + 1 := wrap_i64 (by omega) (by omega)
        obtain ⟨x, hx⟩ : ∃ x, l[i]? = some x := ⟨_, List.getElem?_eq_getElem hi⟩
        have hlk := hk x (List.mem_of_getElem? hx)
        unfold lkOk at hlk
        obtain ⟨u, hu1⟩ := Int.eq_ofNat_of_zero_le hlk.1
        obtain ⟨w, hw1⟩ := Int.eq_ofNat_of_zero_le hlk.2.2.1
        have dcel : (l.map eK)[i]? = some (eK x) := by rw [List.getElem?_map, hx]; rfl
        rw [eK_eq, hu1, hw1] at dcel
        have dcu1 : ((u : Int) < (nn : Int)) = True := by simp; omega
        have dcu0 : ((0 : Int) ≤ (u : Int)) = True := by simp
        have dcw1 : ((w : Int) < (nn : Int)) = True := by simp; omega
        have dcw0 : ((0 : Int) ≤ (w : Int)) = True := by simp
        have dcol : (out1.map eB).length = nn := by simp [hol1]
        have hul : u < out1.length := by omega
        have hwl : w < out1.length := by omega
        have hset : (out1.map eB).set w [.sc (.bool true)] = (out1.set w true).map eB := by simp [List.map_set, eB]
        have dcow : (out1.map eB)[w]? = some [.sc (.bool out1[w])] := by rw [List.getElem?_map, List.getElem?_eq_getElem hwl]; rfl
        cases hb : out1[u]'hul with
        | true =>
          have dcou : (out1.map eB)[u]? = some [.sc (.bool true)] := by rw [List.getElem?_map, List.getElem?_eq_getElem hul, hb]; rfl
          repeat (first | (with_reducible refine AW.seq ?_) | (with_reducible refine AW.block ?_) | (with_reducible refine AW.skip ?_) | (with_reducible refine AW.ret ?_) | (with_reducible refine AW.exit ?_) | (with_reducible refine AW.reg hT ?_) | ((with_reducible refine AW.cond_true ?_ ?_); · rfl) | ((with_reducible refine AW.cond_false ?_ ?_); · rfl) | simp (maxSteps := 3000000) (maxDischargeDepth := 12) only [push_cast,appendX,reduceIte,reduceCtorEq,Nat.reduceSub,Nat.reduceAdd,Nat.reduceMul,Nat.reduceLT,Nat.reduceLeDiff,Nat.reduceEqDiff,Nat.reduceBEq,Int.reduceToNat,Int.reduceLT,Int.reduceLE,Int.reduceEq,Int.reduceNeg,Try.results14,dcml,dcc,dca,dcn,dcnn0,dca1,dca0,dcnb,dck,dcwk,gtb4,Heap.lt gtb4,xt4.2,xt4.ltT,xt4.leT,dci,dci2,dci0,dcwi,dcel,dcu1,dcu0,dcw1,dcw0,dcol,dcow,dcou])
          refine ⟨l.length + 1 - (i + 1), by omega, i + 1, out1.set w true, rfl, hi, hri.mark hx hlk.1 hw1 hwl (by rw [hu1, Int.toNat_natCast, List.getElem?_eq_getElem hul, hb]), by rw [← hset]; simp (maxSteps := 3000000) (maxDischargeDepth := 12) only [push_cast, appendX, Nat.reduceAdd, Nat.reduceEqDiff, Nat.reduceLT, Nat.reduceLeDiff, reduceIte, reduceCtorEq, dcml, dcc, dca, dcn, dcnn0, dca1, dca0, dcnb, dck, dcwk, gtb4, Heap.lt gtb4, xt4.2, xt4.ltT, xt4.leT, dci, dci2, dci0, dcwi, dcel, dcu1, dcu0, dcw1, dcw0, dcol, dcow, dcou], ?_, by (simp only [push_cast, TellsL, tells_any, tells_refl])⟩
          refine xt4.then (Y := [tb]) (by repeat (first | exact Ext.refl _ _ | assumption | refine Ext.push ?_ _ | ((refine Ext.set ?_ ?_ _); rotate_left; · (simp (maxSteps := 3000000) (maxDischargeDepth := 12) only [push_cast, appendX, Nat.reduceAdd, Nat.reduceEqDiff, Nat.reduceLT, Nat.reduceLeDiff, reduceIte, reduceCtorEq, dcml, dcc, dca, dcn, dcnn0, dca1, dca0, dcnb, dck, dcwk, gtb4, Heap.lt gtb4, xt4.2, xt4.ltT, xt4.leT, dci, dci2, dci0, dcwi, dcel, dcu1, dcu0, dcw1, dcw0, dcol, dcow, dcou])) | ((refine Ext.then1 (by assumption) ?_ ?_); rotate_left; · (intro p hp _; first | assumption | exact List.mem_cons_of_mem _ hp | (cases hp; done) | (simp at hp; subst hp; simp))))) (by intro q hq hl; simp at hq; omega)
        | false =>
          have dcou : (out1.map eB)[u]? = some [.sc (.bool false)] := by rw [List.getElem?_map, List.getElem?_eq_getElem hul, hb]; rfl
          repeat (first | (with_reducible refine AW.seq ?_) | (with_reducible refine AW.block ?_) | (with_reducible refine AW.skip ?_) | (with_reducible refine AW.ret ?_) | (with_reducible refine AW.exit ?_) | (with_reducible refine AW.reg hT ?_) | ((with_reducible refine AW.cond_true ?_ ?_); · rfl) | ((with_reducible refine AW.cond_false ?_ ?_); · rfl) | simp (maxSteps := 3000000) (maxDischargeDepth := 12) only [push_cast,appendX,reduceIte,reduceCtorEq,Nat.reduceSub,Nat.reduceAdd,Nat.reduceMul,Nat.reduceLT,Nat.reduceLeDiff,Nat.reduceEqDiff,Nat.reduceBEq,Int.reduceToNat,Int.reduceLT,Int.reduceLE,Int.reduceEq,Int.reduceNeg,Try.results14,dcml,dcc,dca,dcn,dcnn0,dca1,dca0,dcnb,dck,dcwk,gtb4,Heap.lt gtb4,xt4.2,xt4.ltT,xt4.leT,dci,dci2,dci0,dcwi,dcel,dcu1,dcu0,dcw1,dcw0,dcol,dcow,dcou])
          exact ⟨l.length + 1 - (i + 1), by omega, i + 1, out1, rfl, hi, hri.skip hx (by rw [hu1, Int.toNat_natCast, List.getElem?_eq_getElem hul, hb]; simp), gtb4, xt4, by (simp only [push_cast, TellsL, tells_any, tells_refl])⟩
      · have dci : decide ((i : Int) < (l.length : Int)) = false := decide_eq_false (by omega)
        have he : i = l.length := by omega
        subst he
        repeat (first | (with_reducible refine AW.seq ?_) | (with_reducible refine AW.block ?_) | (with_reducible refine AW.skip ?_) | (with_reducible refine AW.ret ?_) | (with_reducible refine AW.exit ?_) | (with_reducible refine AW.reg hT ?_) | ((with_reducible refine AW.cond_true ?_ ?_); · rfl) | ((with_reducible refine AW.cond_false ?_ ?_); · rfl) | simp (maxSteps := 3000000) (maxDischargeDepth := 12) only [push_cast,appendX,reduceIte,reduceCtorEq,Nat.reduceSub,Nat.reduceAdd,Nat.reduceMul,Nat.reduceLT,Nat.reduceLeDiff,Nat.reduceEqDiff,Nat.reduceBEq,Int.reduceToNat,Int.reduceLT,Int.reduceLE,Int.reduceEq,Int.reduceNeg,Try.results14,dcml,dcc,dca,dcn,dcnn0,dca1,dca0,dcnb,dck,dcwk,gtb4,Heap.lt gtb4,xt4.2,xt4.ltT,xt4.leT,dci])
        exact ⟨nn + 1 - (k + 1), by omega, k + 1, out1, rfl, hkk, hol1, hri.round hcl, hri.2.2.2.2.1, hri.2.2.1 _ haa, gtb4, xt4, by (simp only [push_cast, TellsL, tells_any, tells_refl])⟩
    · have dck : decide ((k : Int) < (nn : Int)) = false := decide_eq_false (by omega)
      have hcl2 : closedO l out := by
        rcases hcl with h | h
        · exact h
        · omega
      have hrok : RchOk nn l aa out := BF.close (n := (nn : Int)) ⟨hrc, haa, by simp, fun k x hx hxo => .inr (.inl (hcl2 x (List.mem_of_getElem? hx) hxo))⟩ hc ⟨by omega, by omega⟩ (by omega)
      repeat (first | (with_reducible refine AW.seq ?_) | (with_reducible refine AW.block ?_) | (with_reducible refine AW.skip ?_) | (with_reducible refine AW.ret ?_) | (with_reducible refine AW.exit ?_) | (with_reducible refine AW.reg hT ?_) | ((with_reducible refine AW.cond_true ?_ ?_); · rfl) | ((with_reducible refine AW.cond_false ?_ ?_); · rfl) | simp (maxSteps := 3000000) (maxDischargeDepth := 12) only [push_cast,appendX,reduceIte,reduceCtorEq,Nat.reduceSub,Nat.reduceAdd,Nat.reduceMul,Nat.reduceLT,Nat.reduceLeDiff,Nat.reduceEqDiff,Nat.reduceBEq,Int.reduceToNat,Int.reduceLT,Int.reduceLE,Int.reduceEq,Int.reduceNeg,Try.results14,dcml,dcc,dca,dcn,dcnn0,dca1,dca0,dcnb,dck])
      exact ⟨out, hrok, (by have h := Hold.row gtb; simpa [hol] using h), by simp [tOf]; omega, xt3⟩
  · have dcc : (chk n l == 0) = false := by simpa using hc
    repeat (first | (with_reducible refine AW.seq ?_) | (with_reducible refine AW.block ?_) | (with_reducible refine AW.skip ?_) | (with_reducible refine AW.ret ?_) | (with_reducible refine AW.exit ?_) | (with_reducible refine AW.reg hT ?_) | ((with_reducible refine AW.cond_true ?_ ?_); · rfl) | ((with_reducible refine AW.cond_false ?_ ?_); · rfl) | simp (maxSteps := 3000000) (maxDischargeDepth := 12) only [push_cast,appendX,reduceIte,reduceCtorEq,Nat.reduceSub,Nat.reduceAdd,Nat.reduceMul,Nat.reduceLT,Nat.reduceLeDiff,Nat.reduceEqDiff,Nat.reduceBEq,Int.reduceToNat,Int.reduceLT,Int.reduceLE,Int.reduceEq,Int.reduceNeg,Try.results14,dcml,dcc])
    exact ⟨[], ⟨fun _ => rfl, fun h => absurd h.1 hc⟩, Hold.nil _ _, by simp [tOf], xt1⟩
end Go.Proofs.Ytpigelcckiejiaa.Cm
