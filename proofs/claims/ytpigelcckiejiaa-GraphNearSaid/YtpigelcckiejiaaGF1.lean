/- What a route costs. -/
import Derived.Test.YtpigelcckiejiaaGF0
namespace Go.Proofs.Ytpigelcckiejiaa.Cm
open Go.RowKit
set_option linter.unusedVariables false
set_option linter.unusedSimpArgs false
set_option maxRecDepth 20000
set_option maxHeartbeats 8000000
def smallL (l : List Lk) : Prop := ∀ x ∈ l, -1099511627776 ≤ x.f3 ∧ x.f3 ≤ 1099511627776
/-- What the first nodes of a route cost. -/
def rtG (l : List Lk) (r : List Int) : Nat → Option Int
  | 0 => some 0
  | i + 1 => match rtG l r i with
    | none => none
    | some n => if r.getD i 0 ∈ r.take i then none else if i = 0 then some n else if fnd l (r.getD (i - 1) 0) (r.getD i 0) < 0 then none else match l[(fnd l (r.getD (i - 1) 0) (r.getD i 0)).toNat]? with
      | some x => some (n + x.f3)
      | none => none
def rtv (l : List Lk) (r : List Int) : Int × Int := if r.length < 2 ∨ 16 < r.length then (0, 12) else match rtG l r r.length with
  | some n => (n, 0)
  | none => (0, 12)
theorem fnd_lt (l : List Lk) (a b : Int) (h : 0 ≤ fnd l a b) : ∃ x, l[(fnd l a b).toNat]? = some x ∧ x.f0 = a ∧ x.f1 = b := by
  unfold fnd at h ⊢
  cases hf : l.findIdx? (fun x => decide (x.f0 = a ∧ x.f1 = b)) with
  | none => rw [hf] at h; simp at h
  | some i =>
    obtain ⟨h1, h2, _⟩ := List.findIdx?_eq_some_iff_getElem.1 hf
    simp only [Int.toNat_natCast]
    exact ⟨l[i], List.getElem?_eq_getElem h1, by simpa using h2⟩
theorem rtG_none {l : List Lk} {r : List Int} {i : Nat} (h : rtG l r i = none) : ∀ j, i ≤ j → rtG l r j = none := by
  intro j hj
  induction j with
  | zero =>
    have : i = 0 := by omega
    subst this; exact h
  | succ j ih =>
    by_cases hij : i = j + 1
    · subst hij; exact h
    · have := ih (by omega)
      simp only [rtG, this]
theorem rtG_bound {l : List Lk} (hs : smallL l) {r : List Int} : ∀ {i : Nat} {n : Int}, rtG l r i = some n → -1099511627776 * (i : Int) ≤ n ∧ n ≤ 1099511627776 * (i : Int)
  | 0, n, h => by simp [rtG] at h; omega
  | i + 1, n, h => by
    unfold rtG at h
    split at h
    · cases h
    · rename_i m hm
      have := rtG_bound hs hm
      split at h
      · cases h
      · split at h
        · cases h; push_cast; omega
        · split at h
          · cases h
          · split at h
            · rename_i x hx
              cases h
              have := hs x (List.mem_of_getElem? hx)
              push_cast; omega
            · cases h
theorem rtv_none {l : List Lk} {r : List Int} (h2 : 2 ≤ r.length) (h16 : r.length ≤ 16) {i : Nat} (hi : i ≤ r.length) (h : rtG l r i = none) : rtv l r = (0, 12) := by
  unfold rtv
  rw [if_neg (by omega), rtG_none h _ hi]
theorem rtv_some {l : List Lk} {r : List Int} (h2 : 2 ≤ r.length) (h16 : r.length ≤ 16) {n : Int} (h : rtG l r r.length = some n) : rtv l r = (n, 0) := by
  unfold rtv
  rw [if_neg (by omega), h]
theorem rtG_step {l : List Lk} {r : List Int} {i : Nat} (n : Int) (h : rtG l r i = some n) (x : Int) (hx : r[i]? = some x) : rtG l r (i + 1) = if x ∈ r.take i then none else if i = 0 then some n else if fnd l (r.getD (i - 1) 0) x < 0 then none else match l[(fnd l (r.getD (i - 1) 0) x).toNat]? with
      | some y => some (n + y.f3)
      | none => none := by
  have hg : r.getD i 0 = x := by simp [List.getD_eq_getElem?_getD, hx]
  simp only [rtG, h, hg]
def prI (l : List Lk) (r : List Int) (σ0 : Heap) (m : Nat) (ts : List DV) (σ : Heap) : Prop := ∃ i n, m = r.length + 1 - i ∧ i ≤ r.length ∧ rtG l r i = some n ∧ Ext [] σ0 σ ∧ TellsL ts (.imm (l.map eK) :: .imm (r.map eZ) :: .any :: .any :: .any :: .any :: .sc (.int .i64 n) :: .any :: .any :: .any :: .any :: .any :: .any :: .any :: .any :: .any :: .any :: .any :: .imm (r.map eZ) :: .sc (.int .i64 r.length) :: .sc (.int .i64 i) :: .any :: .any :: .any :: .any :: .any :: .any :: .any :: .any :: .any :: .any :: .any :: .any :: .any :: .any :: .any :: .any :: .any :: .any :: .any :: .any :: .any :: .any :: .any :: .any :: .any :: .any :: .any :: .any :: .any :: .any :: [])
theorem proute_ok (σ : Heap) (l : List Lk) (r : List Int) (hs : smallL l) (hl : l.length ≤ 1000000) : ACalls Try.prog 11 [.imm (l.map eK), .imm (r.map eZ)] σ (fun y σ' => y = .tup [.sc (.int .i64 (rtv l r).1), .sc (.int .i64 (rtv l r).2)] ∧ Ext [] σ σ') := by
  have dcml : (l.map eK).length = l.length := by simp
  have dcmr : (r.map eZ).length = r.length := by simp
  refine ACalls.code hT Try.func11 rfl ?_
  simp only [Try.ntmps11, List.length_cons, List.length_nil, Nat.reduceSub, Nat.reduceAdd, List.replicate, List.cons_append, List.nil_append]
  by_cases h2 : r.length < 2
  · have dc2 : decide ((r.length : Int) < 2) = true := decide_eq_true (by omega)
    have e : rtv l r = (0, 12) := by unfold rtv; rw [if_pos (.inl h2)]
    repeat (first | (with_reducible refine AW.seq ?_) | (with_reducible refine AW.block ?_) | (with_reducible refine AW.skip ?_) | (with_reducible refine AW.ret ?_) | (with_reducible refine AW.exit ?_) | (with_reducible refine AW.reg hT ?_) | ((with_reducible refine AW.cond_true ?_ ?_); · rfl) | ((with_reducible refine AW.cond_false ?_ ?_); · rfl) | simp (maxSteps := 3000000) (maxDischargeDepth := 12) only [push_cast,appendX,reduceIte,reduceCtorEq,Nat.reduceSub,Nat.reduceAdd,Nat.reduceMul,Nat.reduceLT,Nat.reduceLeDiff,Nat.reduceEqDiff,Nat.reduceBEq,Int.reduceToNat,Int.reduceLT,Int.reduceLE,Int.reduceEq,Int.reduceNeg,Try.results11,dcml,dcmr,dc2])
    rw [e]
    exact ⟨rfl, Ext.refl _ _⟩
  have dc2 : decide ((r.length : Int) < 2) = false := decide_eq_false (by omega)
  by_cases h16 : 16 < r.length
  · have dc16 : decide (16 < (r.length : Int)) = true := decide_eq_true (by omega)
    have e : rtv l r = (0, 12) := by unfold rtv; rw [if_pos (.inr h16)]
    repeat (first | (with_reducible refine AW.seq ?_) | (with_reducible refine AW.block ?_) | (with_reducible refine AW.skip ?_) | (with_reducible refine AW.ret ?_) | (with_reducible refine AW.exit ?_) | (with_reducible refine AW.reg hT ?_) | ((with_reducible refine AW.cond_true ?_ ?_); · rfl) | ((with_reducible refine AW.cond_false ?_ ?_); · rfl) | simp (maxSteps := 3000000) (maxDischargeDepth := 12) only [push_cast,appendX,reduceIte,reduceCtorEq,Nat.reduceSub,Nat.reduceAdd,Nat.reduceMul,Nat.reduceLT,Nat.reduceLeDiff,Nat.reduceEqDiff,Nat.reduceBEq,Int.reduceToNat,Int.reduceLT,Int.reduceLE,Int.reduceEq,Int.reduceNeg,Try.results11,dcml,dcmr,dc2,dc16])
    rw [e]
    exact ⟨rfl, Ext.refl _ _⟩
  have dc16 : decide (16 < (r.length : Int)) = false := decide_eq_false (by omega)
  repeat (first | (with_reducible refine AW.seq ?_) | (with_reducible refine AW.block ?_) | (with_reducible refine AW.skip ?_) | (with_reducible refine AW.ret ?_) | (with_reducible refine AW.exit ?_) | (with_reducible refine AW.reg hT ?_) | ((with_reducible refine AW.cond_true ?_ ?_); · rfl) | ((with_reducible refine AW.cond_false ?_ ?_); · rfl) | simp (maxSteps := 3000000) (maxDischargeDepth := 12) only [push_cast,appendX,reduceIte,reduceCtorEq,Nat.reduceSub,Nat.reduceAdd,Nat.reduceMul,Nat.reduceLT,Nat.reduceLeDiff,Nat.reduceEqDiff,Nat.reduceBEq,Int.reduceToNat,Int.reduceLT,Int.reduceLE,Int.reduceEq,Int.reduceNeg,Try.results11,dcml,dcmr,dc2,dc16])
  refine AW.loop (prI l r σ) (m := r.length + 1) ⟨0, 0, rfl, Nat.zero_le _, rfl, Ext.refl _ _, by (simp only [push_cast, TellsL, tells_any, tells_refl])⟩ ?_
  rintro m ts σ3 ⟨i, n, rfl, hil, hrt, xt3, hts⟩
  refine AW.told hts ?_
  clear hts
  by_cases hi : i < r.length
  · have dci : decide ((i : Int) < (r.length : Int)) = true := decide_eq_true (by omega)
    have dci2 : ((i : Int) < (r.length : Int)) = True := by simp; omega
    have dci0 : ((0 : Int) ≤ (i : Int)) = True := by simp
    have dcil : ((i : Int) ≤ (r.length : Int)) = True := by simp; omega
    obtain ⟨x, hx⟩ : ∃ x, r[i]? = some x := ⟨_, List.getElem?_eq_getElem hi⟩
    have dcel : (r.map eZ)[i]? = some [.sc (.int .i64 x)] := by rw [List.getElem?_map, hx]; rfl
    have dcw : IntKind.i64.wrap ((i : Int) + 1) = (i : Int) + 1 := wrap_i64 (by omega) (by omega)
    have dcall : ((r.map eZ).all fun el => el.length == 1) = true := by simp [eZ]
    have dctk : (r.map eZ).take i = (r.take i).map eZ := by simp
    have hstep := rtG_step n hrt x hx
    repeat (first | (with_reducible refine AW.seq ?_) | (with_reducible refine AW.block ?_) | (with_reducible refine AW.skip ?_) | (with_reducible refine AW.ret ?_) | (with_reducible refine AW.exit ?_) | (with_reducible refine AW.reg hT ?_) | ((with_reducible refine AW.cond_true ?_ ?_); · rfl) | ((with_reducible refine AW.cond_false ?_ ?_); · rfl) | simp (maxSteps := 3000000) (maxDischargeDepth := 12) only [push_cast,appendX,reduceIte,reduceCtorEq,Nat.reduceSub,Nat.reduceAdd,Nat.reduceMul,Nat.reduceLT,Nat.reduceLeDiff,Nat.reduceEqDiff,Nat.reduceBEq,Int.reduceToNat,Int.reduceLT,Int.reduceLE,Int.reduceEq,Int.reduceNeg,Try.results11,dcml,dcmr,dc2,dc16,xt3.2,xt3.ltT,xt3.leT,dci,dci2,dci0,dcil,dcel,dcw,dcall,dctk])
    refine AOpsL.call (first := []) (cap := []) hT rfl rfl rfl fn25 rfl (ACalls.mono (contains_ok _ (r.take i) x (by rw [List.length_take]; omega)) ?_)
    rintro y s ⟨rfl, rfl⟩
    by_cases hm : x ∈ r.take i
    · have dcm : decide (x ∈ r.take i) = true := decide_eq_true hm
      have e := rtv_none (by omega) (by omega) hi (by rw [hstep, if_pos hm])
      repeat (first | (with_reducible refine AW.seq ?_) | (with_reducible refine AW.block ?_) | (with_reducible refine AW.skip ?_) | (with_reducible refine AW.ret ?_) | (with_reducible refine AW.exit ?_) | (with_reducible refine AW.reg hT ?_) | ((with_reducible refine AW.cond_true ?_ ?_); · rfl) | ((with_reducible refine AW.cond_false ?_ ?_); · rfl) | simp (maxSteps := 3000000) (maxDischargeDepth := 12) only [push_cast,appendX,reduceIte,reduceCtorEq,Nat.reduceSub,Nat.reduceAdd,Nat.reduceMul,Nat.reduceLT,Nat.reduceLeDiff,Nat.reduceEqDiff,Nat.reduceBEq,Int.reduceToNat,Int.reduceLT,Int.reduceLE,Int.reduceEq,Int.reduceNeg,Try.results11,dcml,dcmr,dc2,dc16,xt3.2,xt3.ltT,xt3.leT,dci,dci2,dci0,dcil,dcel,dcw,dcall,dctk,dcm])
      rw [e]
      exact ⟨rfl, xt3⟩
    have dcm : decide (x ∈ r.take i) = false := decide_eq_false hm
    rw [if_neg hm] at hstep
    by_cases hi0 : i = 0
    · have dcz : ((i : Int) == 0) = true := by simp [hi0]
      rw [if_pos hi0] at hstep
      repeat (first | (with_reducible refine AW.seq ?_) | (with_reducible refine AW.block ?_) | (with_reducible refine AW.skip ?_) | (with_reducible refine AW.ret ?_) | (with_reducible refine AW.exit ?_) | (with_reducible refine AW.reg hT ?_) | ((with_reducible refine AW.cond_true ?_ ?_); · rfl) | ((with_reducible refine AW.cond_false ?_ ?_); · rfl) | simp (maxSteps := 3000000) (maxDischargeDepth := 12) only [push_cast,appendX,reduceIte,reduceCtorEq,Nat.reduceSub,Nat.reduceAdd,Nat.reduceMul,Nat.reduceLT,Nat.reduceLeDiff,Nat.reduceEqDiff,Nat.reduceBEq,Int.reduceToNat,Int.reduceLT,Int.reduceLE,Int.reduceEq,Int.reduceNeg,Try.results11,dcml,dcmr,dc2,dc16,xt3.2,xt3.ltT,xt3.leT,dci,dci2,dci0,dcil,dcel,dcw,dcall,dctk,dcm,dcz])
      exact ⟨r.length + 1 - (i + 1), by omega, i + 1, n, rfl, hi, hstep, xt3, by (simp only [push_cast, TellsL, tells_any, tells_refl])⟩
    have dcz : ((i : Int) == 0) = false := by simp [hi0]
    rw [if_neg hi0] at hstep
    obtain ⟨j, hj⟩ : ∃ j, j = i - 1 := ⟨_, rfl⟩
    obtain ⟨w, hw⟩ : ∃ w, r[j]? = some w := ⟨_, List.getElem?_eq_getElem (by omega)⟩
    have hgw : r.getD (i - 1) 0 = w := by rw [← hj]; simp [List.getD_eq_getElem?_getD, hw]
    rw [hgw] at hstep
    have dcw1 : IntKind.i64.wrap ((i : Int) - 1) = (i : Int) - 1 := wrap_i64 (by omega) (by omega)
    have dcj1 : ((i : Int) - 1 < (r.length : Int)) = True := by simp; omega
    have dcj0 : ((0 : Int) ≤ (i : Int) - 1) = True := by simp; omega
    have dcjt : ((i : Int) - 1).toNat = j := by omega
    have dcep : (r.map eZ)[j]? = some [.sc (.int .i64 w)] := by rw [List.getElem?_map, hw]; rfl
    repeat (first | (with_reducible refine AW.seq ?_) | (with_reducible refine AW.block ?_) | (with_reducible refine AW.skip ?_) | (with_reducible refine AW.ret ?_) | (with_reducible refine AW.exit ?_) | (with_reducible refine AW.reg hT ?_) | ((with_reducible refine AW.cond_true ?_ ?_); · rfl) | ((with_reducible refine AW.cond_false ?_ ?_); · rfl) | simp (maxSteps := 3000000) (maxDischargeDepth := 12) only [push_cast,appendX,reduceIte,reduceCtorEq,Nat.reduceSub,Nat.reduceAdd,Nat.reduceMul,Nat.reduceLT,Nat.reduceLeDiff,Nat.reduceEqDiff,Nat.reduceBEq,Int.reduceToNat,Int.reduceLT,Int.reduceLE,Int.reduceEq,Int.reduceNeg,Try.results11,dcml,dcmr,dc2,dc16,xt3.2,xt3.ltT,xt3.leT,dci,dci2,dci0,dcil,dcel,dcw,dcall,dctk,dcm,dcz,dcw1,dcj1,dcj0,dcjt,dcep])
    refine AOpsL.call (first := []) (cap := []) hT rfl rfl rfl fn18 rfl (ACalls.mono (pfind_ok _ l w x hl) ?_)
    rintro y s ⟨rfl, xt4⟩
    by_cases hf : fnd l w x < 0
    · have dcf : decide (fnd l w x < 0) = true := decide_eq_true hf
      have e := rtv_none (by omega) (by omega) hi (by rw [hstep, if_pos hf])
      repeat (first | (with_reducible refine AW.seq ?_) | (with_reducible refine AW.block ?_) | (with_reducible refine AW.skip ?_) | (with_reducible refine AW.ret ?_) | (with_reducible refine AW.exit ?_) | (with_reducible refine AW.reg hT ?_) | ((with_reducible refine AW.cond_true ?_ ?_); · rfl) | ((with_reducible refine AW.cond_false ?_ ?_); · rfl) | simp (maxSteps := 3000000) (maxDischargeDepth := 12) only [push_cast,appendX,reduceIte,reduceCtorEq,Nat.reduceSub,Nat.reduceAdd,Nat.reduceMul,Nat.reduceLT,Nat.reduceLeDiff,Nat.reduceEqDiff,Nat.reduceBEq,Int.reduceToNat,Int.reduceLT,Int.reduceLE,Int.reduceEq,Int.reduceNeg,Try.results11,dcml,dcmr,dc2,dc16,xt3.2,xt3.ltT,xt3.leT,dci,dci2,dci0,dcil,dcel,dcw,dcall,dctk,dcm,dcz,dcw1,dcj1,dcj0,dcjt,dcep,xt4.2,xt4.ltT,xt4.leT,dcf])
      rw [e]
      exact ⟨rfl, xt3.trans xt4⟩
    have dcf : decide (fnd l w x < 0) = false := decide_eq_false hf
    rw [if_neg hf] at hstep
    obtain ⟨z, hz, _⟩ := fnd_lt l w x (by omega)
    have hzl := (List.getElem?_eq_some_iff.1 hz).1
    rw [hz] at hstep
    have dck1 : (fnd l w x < (l.length : Int)) = True := by simp; omega
    have dck0 : (0 ≤ fnd l w x) = True := by simp; omega
    have dcek : (l.map eK)[(fnd l w x).toNat]? = some (eK z) := by rw [List.getElem?_map, hz]; rfl
    rw [eK_eq] at dcek
    have hbn := rtG_bound hs hstep
    have dcwn : IntKind.i64.wrap (n + z.f3) = n + z.f3 := wrap_i64 (by omega) (by omega)
    repeat (first | (with_reducible refine AW.seq ?_) | (with_reducible refine AW.block ?_) | (with_reducible refine AW.skip ?_) | (with_reducible refine AW.ret ?_) | (with_reducible refine AW.exit ?_) | (with_reducible refine AW.reg hT ?_) | ((with_reducible refine AW.cond_true ?_ ?_); · rfl) | ((with_reducible refine AW.cond_false ?_ ?_); · rfl) | simp (maxSteps := 3000000) (maxDischargeDepth := 12) only [push_cast,appendX,reduceIte,reduceCtorEq,Nat.reduceSub,Nat.reduceAdd,Nat.reduceMul,Nat.reduceLT,Nat.reduceLeDiff,Nat.reduceEqDiff,Nat.reduceBEq,Int.reduceToNat,Int.reduceLT,Int.reduceLE,Int.reduceEq,Int.reduceNeg,Try.results11,dcml,dcmr,dc2,dc16,xt3.2,xt3.ltT,xt3.leT,dci,dci2,dci0,dcil,dcel,dcw,dcall,dctk,dcm,dcz,dcw1,dcj1,dcj0,dcjt,dcep,xt4.2,xt4.ltT,xt4.leT,dcf,dck1,dck0,dcek,dcwn])
    exact ⟨r.length + 1 - (i + 1), by omega, i + 1, n + z.f3, rfl, hi, hstep, xt3.trans xt4, by (simp only [push_cast, TellsL, tells_any, tells_refl])⟩
  · have dci : decide ((i : Int) < (r.length : Int)) = false := decide_eq_false (by omega)
    have he : i = r.length := by omega
    subst he
    have e := rtv_some (by omega) (by omega) hrt
    repeat (first | (with_reducible refine AW.seq ?_) | (with_reducible refine AW.block ?_) | (with_reducible refine AW.skip ?_) | (with_reducible refine AW.ret ?_) | (with_reducible refine AW.exit ?_) | (with_reducible refine AW.reg hT ?_) | ((with_reducible refine AW.cond_true ?_ ?_); · rfl) | ((with_reducible refine AW.cond_false ?_ ?_); · rfl) | simp (maxSteps := 3000000) (maxDischargeDepth := 12) only [push_cast,appendX,reduceIte,reduceCtorEq,Nat.reduceSub,Nat.reduceAdd,Nat.reduceMul,Nat.reduceLT,Nat.reduceLeDiff,Nat.reduceEqDiff,Nat.reduceBEq,Int.reduceToNat,Int.reduceLT,Int.reduceLE,Int.reduceEq,Int.reduceNeg,Try.results11,dcml,dcmr,dc2,dc16,xt3.2,xt3.ltT,xt3.leT,dci])
    rw [e]
    exact ⟨rfl, xt3⟩
def rrI (l : List Lk) (r : List Int) (σ0 : Heap) (m : Nat) (ts : List DV) (σ : Heap) : Prop := ∃ i n, m = r.length + 1 - i ∧ i ≤ r.length ∧ rtG l r i = some n ∧ Ext [] σ0 σ ∧ TellsL ts (.imm (l.map eK) :: .imm (r.map eZ) :: .any :: .any :: .any :: .any :: .sc (.int .i64 n) :: .sc (.int .i64 i) :: .any :: .any :: .any :: .any :: .any :: .any :: .any :: .any :: .any :: .any :: .any :: .any :: .any :: .any :: .any :: .any :: .any :: .any :: .any :: .any :: .any :: .any :: .any :: .any :: .any :: .any :: .any :: .any :: .any :: .any :: .any :: .any :: .any :: .any :: .any :: .any :: .any :: .any :: .any :: .any :: .any :: .any :: .any :: .any :: .any :: .any :: [])
theorem rroute_ok (σ : Heap) (l : List Lk) (r : List Int) (hs : smallL l) (hl : l.length ≤ 1000000) : ACalls Try.prog 12 [.imm (l.map eK), .imm (r.map eZ)] σ (fun y σ' => y = .tup [.sc (.int .i64 (rtv l r).1), .sc (.int .i64 (rtv l r).2)] ∧ Ext [] σ σ') := by
  have dcml : (l.map eK).length = l.length := by simp
  have dcmr : (r.map eZ).length = r.length := by simp
  refine ACalls.code hT Try.func12 rfl ?_
  simp only [Try.ntmps12, List.length_cons, List.length_nil, Nat.reduceSub, Nat.reduceAdd, List.replicate, List.cons_append, List.nil_append]
  by_cases h2 : r.length < 2
  · have dc2 : decide ((r.length : Int) < 2) = true := decide_eq_true (by omega)
    have e : rtv l r = (0, 12) := by unfold rtv; rw [if_pos (.inl h2)]
    repeat (first | (with_reducible refine AW.seq ?_) | (with_reducible refine AW.block ?_) | (with_reducible refine AW.skip ?_) | (with_reducible refine AW.ret ?_) | (with_reducible refine AW.exit ?_) | (with_reducible refine AW.reg hT ?_) | (with_reducible refine AW.drawn (id := 7) hT [0,1,2,3,4,5,6,7] [[],[],[0,1],[],[],[3,4],[3,4,5],[0,1,2,3,4,5,6]] mix (by kernel_rfl) ?_) | (with_reducible refine AW.drawn (id := 10) hT [0,1,2,3,4,5,6,7,8,9,10,11] [[],[],[],[2],[1,2,3],[1,2,3,4],[],[],[6,7],[6,7,8],[0,1,2,3,4,5,6,7,8,9],[0,1,2,3,4,5,6,7,8,9,10]] mix (by kernel_rfl) ?_) | ((with_reducible show DLeft _ _ _ _ (_ :: _) _ _ _ _); (with_reducible apply DLeft.step hT); (case hoi => ((simp only [List.getElem?_toArray,List.getElem?_cons_zero,List.getElem?_cons_succ]); with_reducible rfl)); (case hg => rfl); (case hk => rfl); (case hr => ((try simp (maxSteps := 3000000) (maxDischargeDepth := 12) only [push_cast,appendX,reduceIte,reduceCtorEq,Nat.reduceSub,Nat.reduceAdd,Nat.reduceMul,Nat.reduceLT,Nat.reduceLeDiff,Nat.reduceEqDiff,Nat.reduceBEq,Int.reduceToNat,Int.reduceLT,Int.reduceLE,Int.reduceEq,Int.reduceNeg,Try.results12,dcml,dcmr,dc2]); with_reducible rfl))) | ((with_reducible refine AW.cond_true ?_ ?_); · rfl) | ((with_reducible refine AW.cond_false ?_ ?_); · rfl) | simp (maxSteps := 3000000) (maxDischargeDepth := 12) only [push_cast,appendX,reduceIte,reduceCtorEq,Nat.reduceSub,Nat.reduceAdd,Nat.reduceMul,Nat.reduceLT,Nat.reduceLeDiff,Nat.reduceEqDiff,Nat.reduceBEq,Int.reduceToNat,Int.reduceLT,Int.reduceLE,Int.reduceEq,Int.reduceNeg,Try.results12,dcml,dcmr,dc2])
    rw [e]
    exact ⟨rfl, Ext.refl _ _⟩
  have dc2 : decide ((r.length : Int) < 2) = false := decide_eq_false (by omega)
  by_cases h16 : 16 < r.length
  · have dc16 : decide (16 < (r.length : Int)) = true := decide_eq_true (by omega)
    have e : rtv l r = (0, 12) := by unfold rtv; rw [if_pos (.inr h16)]
    repeat (first | (with_reducible refine AW.seq ?_) | (with_reducible refine AW.block ?_) | (with_reducible refine AW.skip ?_) | (with_reducible refine AW.ret ?_) | (with_reducible refine AW.exit ?_) | (with_reducible refine AW.reg hT ?_) | (with_reducible refine AW.drawn (id := 7) hT [0,1,2,3,4,5,6,7] [[],[],[0,1],[],[],[3,4],[3,4,5],[0,1,2,3,4,5,6]] mix (by kernel_rfl) ?_) | (with_reducible refine AW.drawn (id := 10) hT [0,1,2,3,4,5,6,7,8,9,10,11] [[],[],[],[2],[1,2,3],[1,2,3,4],[],[],[6,7],[6,7,8],[0,1,2,3,4,5,6,7,8,9],[0,1,2,3,4,5,6,7,8,9,10]] mix (by kernel_rfl) ?_) | ((with_reducible show DLeft _ _ _ _ (_ :: _) _ _ _ _); (with_reducible apply DLeft.step hT); (case hoi => ((simp only [List.getElem?_toArray,List.getElem?_cons_zero,List.getElem?_cons_succ]); with_reducible rfl)); (case hg => rfl); (case hk => rfl); (case hr => ((try simp (maxSteps := 3000000) (maxDischargeDepth := 12) only [push_cast,appendX,reduceIte,reduceCtorEq,Nat.reduceSub,Nat.reduceAdd,Nat.reduceMul,Nat.reduceLT,Nat.reduceLeDiff,Nat.reduceEqDiff,Nat.reduceBEq,Int.reduceToNat,Int.reduceLT,Int.reduceLE,Int.reduceEq,Int.reduceNeg,Try.results12,dcml,dcmr,dc2,dc16]); with_reducible rfl))) | ((with_reducible refine AW.cond_true ?_ ?_); · rfl) | ((with_reducible refine AW.cond_false ?_ ?_); · rfl) | simp (maxSteps := 3000000) (maxDischargeDepth := 12) only [push_cast,appendX,reduceIte,reduceCtorEq,Nat.reduceSub,Nat.reduceAdd,Nat.reduceMul,Nat.reduceLT,Nat.reduceLeDiff,Nat.reduceEqDiff,Nat.reduceBEq,Int.reduceToNat,Int.reduceLT,Int.reduceLE,Int.reduceEq,Int.reduceNeg,Try.results12,dcml,dcmr,dc2,dc16])
    rw [e]
    exact ⟨rfl, Ext.refl _ _⟩
  have dc16 : decide (16 < (r.length : Int)) = false := decide_eq_false (by omega)
  repeat (first | (with_reducible refine AW.seq ?_) | (with_reducible refine AW.block ?_) | (with_reducible refine AW.skip ?_) | (with_reducible refine AW.ret ?_) | (with_reducible refine AW.exit ?_) | (with_reducible refine AW.reg hT ?_) | (with_reducible refine AW.drawn (id := 7) hT [0,1,2,3,4,5,6,7] [[],[],[0,1],[],[],[3,4],[3,4,5],[0,1,2,3,4,5,6]] mix (by kernel_rfl) ?_) | (with_reducible refine AW.drawn (id := 10) hT [0,1,2,3,4,5,6,7,8,9,10,11] [[],[],[],[2],[1,2,3],[1,2,3,4],[],[],[6,7],[6,7,8],[0,1,2,3,4,5,6,7,8,9],[0,1,2,3,4,5,6,7,8,9,10]] mix (by kernel_rfl) ?_) | ((with_reducible show DLeft _ _ _ _ (_ :: _) _ _ _ _); (with_reducible apply DLeft.step hT); (case hoi => ((simp only [List.getElem?_toArray,List.getElem?_cons_zero,List.getElem?_cons_succ]); with_reducible rfl)); (case hg => rfl); (case hk => rfl); (case hr => ((try simp (maxSteps := 3000000) (maxDischargeDepth := 12) only [push_cast,appendX,reduceIte,reduceCtorEq,Nat.reduceSub,Nat.reduceAdd,Nat.reduceMul,Nat.reduceLT,Nat.reduceLeDiff,Nat.reduceEqDiff,Nat.reduceBEq,Int.reduceToNat,Int.reduceLT,Int.reduceLE,Int.reduceEq,Int.reduceNeg,Try.results12,dcml,dcmr,dc2,dc16]); with_reducible rfl))) | ((with_reducible refine AW.cond_true ?_ ?_); · rfl) | ((with_reducible refine AW.cond_false ?_ ?_); · rfl) | simp (maxSteps := 3000000) (maxDischargeDepth := 12) only [push_cast,appendX,reduceIte,reduceCtorEq,Nat.reduceSub,Nat.reduceAdd,Nat.reduceMul,Nat.reduceLT,Nat.reduceLeDiff,Nat.reduceEqDiff,Nat.reduceBEq,Int.reduceToNat,Int.reduceLT,Int.reduceLE,Int.reduceEq,Int.reduceNeg,Try.results12,dcml,dcmr,dc2,dc16])
  refine AW.loop (rrI l r σ) (m := r.length + 1) ⟨0, 0, rfl, Nat.zero_le _, rfl, Ext.refl _ _, by (simp only [push_cast, TellsL, tells_any, tells_refl])⟩ ?_
  rintro m ts σ3 ⟨i, n, rfl, hil, hrt, xt3, hts⟩
  refine AW.told hts ?_
  clear hts
  by_cases hi : i < r.length
  · have dci : decide ((i : Int) < (r.length : Int)) = true := decide_eq_true (by omega)
    have dci2 : ((i : Int) < (r.length : Int)) = True := by simp; omega
    have dci0 : ((0 : Int) ≤ (i : Int)) = True := by simp
    have dcil : ((i : Int) ≤ (r.length : Int)) = True := by simp; omega
    obtain ⟨x, hx⟩ : ∃ x, r[i]? = some x := ⟨_, List.getElem?_eq_getElem hi⟩
    have dcel : (r.map eZ)[i]? = some [.sc (.int .i64 x)] := by rw [List.getElem?_map, hx]; rfl
    have dcw : IntKind.i64.wrap ((i : Int) + 1) = (i : Int) + 1 := wrap_i64 (by omega) (by omega)
    have dcall : ((r.map eZ).all fun el => el.length == 1) = true := by simp [eZ]
    have dctk : (r.map eZ).take i = (r.take i).map eZ := by simp
    have hstep := rtG_step n hrt x hx
    repeat (first | (with_reducible refine AW.seq ?_) | (with_reducible refine AW.block ?_) | (with_reducible refine AW.skip ?_) | (with_reducible refine AW.ret ?_) | (with_reducible refine AW.exit ?_) | (with_reducible refine AW.reg hT ?_) | (with_reducible refine AW.drawn (id := 7) hT [0,1,2,3,4,5,6,7] [[],[],[0,1],[],[],[3,4],[3,4,5],[0,1,2,3,4,5,6]] mix (by kernel_rfl) ?_) | (with_reducible refine AW.drawn (id := 10) hT [0,1,2,3,4,5,6,7,8,9,10,11] [[],[],[],[2],[1,2,3],[1,2,3,4],[],[],[6,7],[6,7,8],[0,1,2,3,4,5,6,7,8,9],[0,1,2,3,4,5,6,7,8,9,10]] mix (by kernel_rfl) ?_) | ((with_reducible show DLeft _ _ _ _ (_ :: _) _ _ _ _); (with_reducible apply DLeft.step hT); (case hoi => ((simp only [List.getElem?_toArray,List.getElem?_cons_zero,List.getElem?_cons_succ]); with_reducible rfl)); (case hg => rfl); (case hk => rfl); (case hr => ((try simp (maxSteps := 3000000) (maxDischargeDepth := 12) only [push_cast,appendX,reduceIte,reduceCtorEq,Nat.reduceSub,Nat.reduceAdd,Nat.reduceMul,Nat.reduceLT,Nat.reduceLeDiff,Nat.reduceEqDiff,Nat.reduceBEq,Int.reduceToNat,Int.reduceLT,Int.reduceLE,Int.reduceEq,Int.reduceNeg,Try.results12,dcml,dcmr,dc2,dc16,xt3.2,xt3.ltT,xt3.leT,dci,dci2,dci0,dcil,dcel,dcw,dcall,dctk]); with_reducible rfl))) | ((with_reducible refine AW.cond_true ?_ ?_); · rfl) | ((with_reducible refine AW.cond_false ?_ ?_); · rfl) | simp (maxSteps := 3000000) (maxDischargeDepth := 12) only [push_cast,appendX,reduceIte,reduceCtorEq,Nat.reduceSub,Nat.reduceAdd,Nat.reduceMul,Nat.reduceLT,Nat.reduceLeDiff,Nat.reduceEqDiff,Nat.reduceBEq,Int.reduceToNat,Int.reduceLT,Int.reduceLE,Int.reduceEq,Int.reduceNeg,Try.results12,dcml,dcmr,dc2,dc16,xt3.2,xt3.ltT,xt3.leT,dci,dci2,dci0,dcil,dcel,dcw,dcall,dctk])
    ((apply DLeft.call (f := 24) (first := []) (cap := [])); (case hoi => ((simp only [List.getElem?_toArray, List.getElem?_cons_zero, List.getElem?_cons_succ]); with_reducible rfl)); (case hg => rfl); (case ho => rfl); (case hc => rfl); (case hf => exact fn24); (case has => rfl)); refine ACalls.mono (has_ok _ (r.take i) x (by rw [List.length_take]; omega)) ?_
    rintro y s ⟨rfl, rfl⟩
    by_cases hm : x ∈ r.take i
    · have dcm : decide (x ∈ r.take i) = true := decide_eq_true hm
      have e := rtv_none (by omega) (by omega) hi (by rw [hstep, if_pos hm])
      repeat (first | (with_reducible refine AW.seq ?_) | (with_reducible refine AW.block ?_) | (with_reducible refine AW.skip ?_) | (with_reducible refine AW.ret ?_) | (with_reducible refine AW.exit ?_) | (with_reducible refine AW.reg hT ?_) | (with_reducible refine AW.drawn (id := 7) hT [0,1,2,3,4,5,6,7] [[],[],[0,1],[],[],[3,4],[3,4,5],[0,1,2,3,4,5,6]] mix (by kernel_rfl) ?_) | (with_reducible refine AW.drawn (id := 10) hT [0,1,2,3,4,5,6,7,8,9,10,11] [[],[],[],[2],[1,2,3],[1,2,3,4],[],[],[6,7],[6,7,8],[0,1,2,3,4,5,6,7,8,9],[0,1,2,3,4,5,6,7,8,9,10]] mix (by kernel_rfl) ?_) | ((with_reducible show DLeft _ _ _ _ (_ :: _) _ _ _ _); (with_reducible apply DLeft.step hT); (case hoi => ((simp only [List.getElem?_toArray,List.getElem?_cons_zero,List.getElem?_cons_succ]); with_reducible rfl)); (case hg => rfl); (case hk => rfl); (case hr => ((try simp (maxSteps := 3000000) (maxDischargeDepth := 12) only [push_cast,appendX,reduceIte,reduceCtorEq,Nat.reduceSub,Nat.reduceAdd,Nat.reduceMul,Nat.reduceLT,Nat.reduceLeDiff,Nat.reduceEqDiff,Nat.reduceBEq,Int.reduceToNat,Int.reduceLT,Int.reduceLE,Int.reduceEq,Int.reduceNeg,Try.results12,dcml,dcmr,dc2,dc16,xt3.2,xt3.ltT,xt3.leT,dci,dci2,dci0,dcil,dcel,dcw,dcall,dctk,dcm]); with_reducible rfl))) | ((with_reducible refine AW.cond_true ?_ ?_); · rfl) | ((with_reducible refine AW.cond_false ?_ ?_); · rfl) | simp (maxSteps := 3000000) (maxDischargeDepth := 12) only [push_cast,appendX,reduceIte,reduceCtorEq,Nat.reduceSub,Nat.reduceAdd,Nat.reduceMul,Nat.reduceLT,Nat.reduceLeDiff,Nat.reduceEqDiff,Nat.reduceBEq,Int.reduceToNat,Int.reduceLT,Int.reduceLE,Int.reduceEq,Int.reduceNeg,Try.results12,dcml,dcmr,dc2,dc16,xt3.2,xt3.ltT,xt3.leT,dci,dci2,dci0,dcil,dcel,dcw,dcall,dctk,dcm])
      rw [e]
      exact ⟨rfl, xt3⟩
    have dcm : decide (x ∈ r.take i) = false := decide_eq_false hm
    rw [if_neg hm] at hstep
    by_cases hi0 : i = 0
    · have dcz : ((i : Int) == 0) = true := by simp [hi0]
      rw [if_pos hi0] at hstep
      repeat (first | (with_reducible refine AW.seq ?_) | (with_reducible refine AW.block ?_) | (with_reducible refine AW.skip ?_) | (with_reducible refine AW.ret ?_) | (with_reducible refine AW.exit ?_) | (with_reducible refine AW.reg hT ?_) | (with_reducible refine AW.drawn (id := 7) hT [0,1,2,3,4,5,6,7] [[],[],[0,1],[],[],[3,4],[3,4,5],[0,1,2,3,4,5,6]] mix (by kernel_rfl) ?_) | (with_reducible refine AW.drawn (id := 10) hT [0,1,2,3,4,5,6,7,8,9,10,11] [[],[],[],[2],[1,2,3],[1,2,3,4],[],[],[6,7],[6,7,8],[0,1,2,3,4,5,6,7,8,9],[0,1,2,3,4,5,6,7,8,9,10]] mix (by kernel_rfl) ?_) | ((with_reducible show DLeft _ _ _ _ (_ :: _) _ _ _ _); (with_reducible apply DLeft.step hT); (case hoi => ((simp only [List.getElem?_toArray,List.getElem?_cons_zero,List.getElem?_cons_succ]); with_reducible rfl)); (case hg => rfl); (case hk => rfl); (case hr => ((try simp (maxSteps := 3000000) (maxDischargeDepth := 12) only [push_cast,appendX,reduceIte,reduceCtorEq,Nat.reduceSub,Nat.reduceAdd,Nat.reduceMul,Nat.reduceLT,Nat.reduceLeDiff,Nat.reduceEqDiff,Nat.reduceBEq,Int.reduceToNat,Int.reduceLT,Int.reduceLE,Int.reduceEq,Int.reduceNeg,Try.results12,dcml,dcmr,dc2,dc16,xt3.2,xt3.ltT,xt3.leT,dci,dci2,dci0,dcil,dcel,dcw,dcall,dctk,dcm,dcz]); with_reducible rfl))) | ((with_reducible refine AW.cond_true ?_ ?_); · rfl) | ((with_reducible refine AW.cond_false ?_ ?_); · rfl) | simp (maxSteps := 3000000) (maxDischargeDepth := 12) only [push_cast,appendX,reduceIte,reduceCtorEq,Nat.reduceSub,Nat.reduceAdd,Nat.reduceMul,Nat.reduceLT,Nat.reduceLeDiff,Nat.reduceEqDiff,Nat.reduceBEq,Int.reduceToNat,Int.reduceLT,Int.reduceLE,Int.reduceEq,Int.reduceNeg,Try.results12,dcml,dcmr,dc2,dc16,xt3.2,xt3.ltT,xt3.leT,dci,dci2,dci0,dcil,dcel,dcw,dcall,dctk,dcm,dcz])
      exact ⟨r.length + 1 - (i + 1), by omega, i + 1, n, rfl, hi, hstep, xt3, by (simp only [push_cast, TellsL, tells_any, tells_refl])⟩
    have dcz : ((i : Int) == 0) = false := by simp [hi0]
    rw [if_neg hi0] at hstep
    obtain ⟨j, hj⟩ : ∃ j, j = i - 1 := ⟨_, rfl⟩
    obtain ⟨w, hw⟩ : ∃ w, r[j]? = some w := ⟨_, List.getElem?_eq_getElem (by omega)⟩
    have hgw : r.getD (i - 1) 0 = w := by rw [← hj]; simp [List.getD_eq_getElem?_getD, hw]
    rw [hgw] at hstep
    have dcw1 : IntKind.i64.wrap ((i : Int) - 1) = (i : Int) - 1 := wrap_i64 (by omega) (by omega)
    have dcj1 : ((i : Int) - 1 < (r.length : Int)) = True := by simp; omega
    have dcj0 : ((0 : Int) ≤ (i : Int) - 1) = True := by simp; omega
    have dcjt : ((i : Int) - 1).toNat = j := by omega
    have dcep : (r.map eZ)[j]? = some [.sc (.int .i64 w)] := by rw [List.getElem?_map, hw]; rfl
    repeat (first | (with_reducible refine AW.seq ?_) | (with_reducible refine AW.block ?_) | (with_reducible refine AW.skip ?_) | (with_reducible refine AW.ret ?_) | (with_reducible refine AW.exit ?_) | (with_reducible refine AW.reg hT ?_) | (with_reducible refine AW.drawn (id := 7) hT [0,1,2,3,4,5,6,7] [[],[],[0,1],[],[],[3,4],[3,4,5],[0,1,2,3,4,5,6]] mix (by kernel_rfl) ?_) | (with_reducible refine AW.drawn (id := 10) hT [0,1,2,3,4,5,6,7,8,9,10,11] [[],[],[],[2],[1,2,3],[1,2,3,4],[],[],[6,7],[6,7,8],[0,1,2,3,4,5,6,7,8,9],[0,1,2,3,4,5,6,7,8,9,10]] mix (by kernel_rfl) ?_) | ((with_reducible show DLeft _ _ _ _ (_ :: _) _ _ _ _); (with_reducible apply DLeft.step hT); (case hoi => ((simp only [List.getElem?_toArray,List.getElem?_cons_zero,List.getElem?_cons_succ]); with_reducible rfl)); (case hg => rfl); (case hk => rfl); (case hr => ((try simp (maxSteps := 3000000) (maxDischargeDepth := 12) only [push_cast,appendX,reduceIte,reduceCtorEq,Nat.reduceSub,Nat.reduceAdd,Nat.reduceMul,Nat.reduceLT,Nat.reduceLeDiff,Nat.reduceEqDiff,Nat.reduceBEq,Int.reduceToNat,Int.reduceLT,Int.reduceLE,Int.reduceEq,Int.reduceNeg,Try.results12,dcml,dcmr,dc2,dc16,xt3.2,xt3.ltT,xt3.leT,dci,dci2,dci0,dcil,dcel,dcw,dcall,dctk,dcm,dcz,dcw1,dcj1,dcj0,dcjt,dcep]); with_reducible rfl))) | ((with_reducible refine AW.cond_true ?_ ?_); · rfl) | ((with_reducible refine AW.cond_false ?_ ?_); · rfl) | simp (maxSteps := 3000000) (maxDischargeDepth := 12) only [push_cast,appendX,reduceIte,reduceCtorEq,Nat.reduceSub,Nat.reduceAdd,Nat.reduceMul,Nat.reduceLT,Nat.reduceLeDiff,Nat.reduceEqDiff,Nat.reduceBEq,Int.reduceToNat,Int.reduceLT,Int.reduceLE,Int.reduceEq,Int.reduceNeg,Try.results12,dcml,dcmr,dc2,dc16,xt3.2,xt3.ltT,xt3.leT,dci,dci2,dci0,dcil,dcel,dcw,dcall,dctk,dcm,dcz,dcw1,dcj1,dcj0,dcjt,dcep])
    ((apply DLeft.call (f := 19) (first := []) (cap := [])); (case hoi => ((simp only [List.getElem?_toArray, List.getElem?_cons_zero, List.getElem?_cons_succ]); with_reducible rfl)); (case hg => rfl); (case ho => rfl); (case hc => rfl); (case hf => exact fn19); (case has => rfl)); refine ACalls.mono (rfind_ok _ l w x hl) ?_
    rintro y s ⟨rfl, rfl⟩
    by_cases hf : fnd l w x < 0
    · have dcf : decide (fnd l w x < 0) = true := decide_eq_true hf
      have e := rtv_none (by omega) (by omega) hi (by rw [hstep, if_pos hf])
      repeat (first | (with_reducible refine AW.seq ?_) | (with_reducible refine AW.block ?_) | (with_reducible refine AW.skip ?_) | (with_reducible refine AW.ret ?_) | (with_reducible refine AW.exit ?_) | (with_reducible refine AW.reg hT ?_) | (with_reducible refine AW.drawn (id := 7) hT [0,1,2,3,4,5,6,7] [[],[],[0,1],[],[],[3,4],[3,4,5],[0,1,2,3,4,5,6]] mix (by kernel_rfl) ?_) | (with_reducible refine AW.drawn (id := 10) hT [0,1,2,3,4,5,6,7,8,9,10,11] [[],[],[],[2],[1,2,3],[1,2,3,4],[],[],[6,7],[6,7,8],[0,1,2,3,4,5,6,7,8,9],[0,1,2,3,4,5,6,7,8,9,10]] mix (by kernel_rfl) ?_) | ((with_reducible show DLeft _ _ _ _ (_ :: _) _ _ _ _); (with_reducible apply DLeft.step hT); (case hoi => ((simp only [List.getElem?_toArray,List.getElem?_cons_zero,List.getElem?_cons_succ]); with_reducible rfl)); (case hg => rfl); (case hk => rfl); (case hr => ((try simp (maxSteps := 3000000) (maxDischargeDepth := 12) only [push_cast,appendX,reduceIte,reduceCtorEq,Nat.reduceSub,Nat.reduceAdd,Nat.reduceMul,Nat.reduceLT,Nat.reduceLeDiff,Nat.reduceEqDiff,Nat.reduceBEq,Int.reduceToNat,Int.reduceLT,Int.reduceLE,Int.reduceEq,Int.reduceNeg,Try.results12,dcml,dcmr,dc2,dc16,xt3.2,xt3.ltT,xt3.leT,dci,dci2,dci0,dcil,dcel,dcw,dcall,dctk,dcm,dcz,dcw1,dcj1,dcj0,dcjt,dcep,dcf]); with_reducible rfl))) | ((with_reducible refine AW.cond_true ?_ ?_); · rfl) | ((with_reducible refine AW.cond_false ?_ ?_); · rfl) | simp (maxSteps := 3000000) (maxDischargeDepth := 12) only [push_cast,appendX,reduceIte,reduceCtorEq,Nat.reduceSub,Nat.reduceAdd,Nat.reduceMul,Nat.reduceLT,Nat.reduceLeDiff,Nat.reduceEqDiff,Nat.reduceBEq,Int.reduceToNat,Int.reduceLT,Int.reduceLE,Int.reduceEq,Int.reduceNeg,Try.results12,dcml,dcmr,dc2,dc16,xt3.2,xt3.ltT,xt3.leT,dci,dci2,dci0,dcil,dcel,dcw,dcall,dctk,dcm,dcz,dcw1,dcj1,dcj0,dcjt,dcep,dcf])
      rw [e]
      exact ⟨rfl, xt3⟩
    have dcf : decide (fnd l w x < 0) = false := decide_eq_false hf
    rw [if_neg hf] at hstep
    obtain ⟨z, hz, _⟩ := fnd_lt l w x (by omega)
    have hzl := (List.getElem?_eq_some_iff.1 hz).1
    rw [hz] at hstep
    have dck1 : (fnd l w x < (l.length : Int)) = True := by simp; omega
    have dck0 : (0 ≤ fnd l w x) = True := by simp; omega
    have dcek : (l.map eK)[(fnd l w x).toNat]? = some (eK z) := by rw [List.getElem?_map, hz]; rfl
    rw [eK_eq] at dcek
    have hbn := rtG_bound hs hstep
    have dcwn : IntKind.i64.wrap (n + z.f3) = n + z.f3 := wrap_i64 (by omega) (by omega)
    repeat (first | (with_reducible refine AW.seq ?_) | (with_reducible refine AW.block ?_) | (with_reducible refine AW.skip ?_) | (with_reducible refine AW.ret ?_) | (with_reducible refine AW.exit ?_) | (with_reducible refine AW.reg hT ?_) | (with_reducible refine AW.drawn (id := 7) hT [0,1,2,3,4,5,6,7] [[],[],[0,1],[],[],[3,4],[3,4,5],[0,1,2,3,4,5,6]] mix (by kernel_rfl) ?_) | (with_reducible refine AW.drawn (id := 10) hT [0,1,2,3,4,5,6,7,8,9,10,11] [[],[],[],[2],[1,2,3],[1,2,3,4],[],[],[6,7],[6,7,8],[0,1,2,3,4,5,6,7,8,9],[0,1,2,3,4,5,6,7,8,9,10]] mix (by kernel_rfl) ?_) | ((with_reducible show DLeft _ _ _ _ (_ :: _) _ _ _ _); (with_reducible apply DLeft.step hT); (case hoi => ((simp only [List.getElem?_toArray,List.getElem?_cons_zero,List.getElem?_cons_succ]); with_reducible rfl)); (case hg => rfl); (case hk => rfl); (case hr => ((try simp (maxSteps := 3000000) (maxDischargeDepth := 12) only [push_cast,appendX,reduceIte,reduceCtorEq,Nat.reduceSub,Nat.reduceAdd,Nat.reduceMul,Nat.reduceLT,Nat.reduceLeDiff,Nat.reduceEqDiff,Nat.reduceBEq,Int.reduceToNat,Int.reduceLT,Int.reduceLE,Int.reduceEq,Int.reduceNeg,Try.results12,dcml,dcmr,dc2,dc16,xt3.2,xt3.ltT,xt3.leT,dci,dci2,dci0,dcil,dcel,dcw,dcall,dctk,dcm,dcz,dcw1,dcj1,dcj0,dcjt,dcep,dcf,dck1,dck0,dcek,dcwn]); with_reducible rfl))) | ((with_reducible refine AW.cond_true ?_ ?_); · rfl) | ((with_reducible refine AW.cond_false ?_ ?_); · rfl) | simp (maxSteps := 3000000) (maxDischargeDepth := 12) only [push_cast,appendX,reduceIte,reduceCtorEq,Nat.reduceSub,Nat.reduceAdd,Nat.reduceMul,Nat.reduceLT,Nat.reduceLeDiff,Nat.reduceEqDiff,Nat.reduceBEq,Int.reduceToNat,Int.reduceLT,Int.reduceLE,Int.reduceEq,Int.reduceNeg,Try.results12,dcml,dcmr,dc2,dc16,xt3.2,xt3.ltT,xt3.leT,dci,dci2,dci0,dcil,dcel,dcw,dcall,dctk,dcm,dcz,dcw1,dcj1,dcj0,dcjt,dcep,dcf,dck1,dck0,dcek,dcwn])
    exact ⟨r.length + 1 - (i + 1), by omega, i + 1, n + z.f3, rfl, hi, hstep, xt3, by (simp only [push_cast, TellsL, tells_any, tells_refl])⟩
  · have dci : decide ((i : Int) < (r.length : Int)) = false := decide_eq_false (by omega)
    have he : i = r.length := by omega
    subst he
    have e := rtv_some (by omega) (by omega) hrt
    repeat (first | (with_reducible refine AW.seq ?_) | (with_reducible refine AW.block ?_) | (with_reducible refine AW.skip ?_) | (with_reducible refine AW.ret ?_) | (with_reducible refine AW.exit ?_) | (with_reducible refine AW.reg hT ?_) | (with_reducible refine AW.drawn (id := 7) hT [0,1,2,3,4,5,6,7] [[],[],[0,1],[],[],[3,4],[3,4,5],[0,1,2,3,4,5,6]] mix (by kernel_rfl) ?_) | (with_reducible refine AW.drawn (id := 10) hT [0,1,2,3,4,5,6,7,8,9,10,11] [[],[],[],[2],[1,2,3],[1,2,3,4],[],[],[6,7],[6,7,8],[0,1,2,3,4,5,6,7,8,9],[0,1,2,3,4,5,6,7,8,9,10]] mix (by kernel_rfl) ?_) | ((with_reducible show DLeft _ _ _ _ (_ :: _) _ _ _ _); (with_reducible apply DLeft.step hT); (case hoi => ((simp only [List.getElem?_toArray,List.getElem?_cons_zero,List.getElem?_cons_succ]); with_reducible rfl)); (case hg => rfl); (case hk => rfl); (case hr => ((try simp (maxSteps := 3000000) (maxDischargeDepth := 12) only [push_cast,appendX,reduceIte,reduceCtorEq,Nat.reduceSub,Nat.reduceAdd,Nat.reduceMul,Nat.reduceLT,Nat.reduceLeDiff,Nat.reduceEqDiff,Nat.reduceBEq,Int.reduceToNat,Int.reduceLT,Int.reduceLE,Int.reduceEq,Int.reduceNeg,Try.results12,dcml,dcmr,dc2,dc16,xt3.2,xt3.ltT,xt3.leT,dci]); with_reducible rfl))) | ((with_reducible refine AW.cond_true ?_ ?_); · rfl) | ((with_reducible refine AW.cond_false ?_ ?_); · rfl) | simp (maxSteps := 3000000) (maxDischargeDepth := 12) only [push_cast,appendX,reduceIte,reduceCtorEq,Nat.reduceSub,Nat.reduceAdd,Nat.reduceMul,Nat.reduceLT,Nat.reduceLeDiff,Nat.reduceEqDiff,Nat.reduceBEq,Int.reduceToNat,Int.reduceLT,Int.reduceLE,Int.reduceEq,Int.reduceNeg,Try.results12,dcml,dcmr,dc2,dc16,xt3.2,xt3.ltT,xt3.leT,dci])
    rw [e]
    exact ⟨rfl, xt3⟩
end Go.Proofs.Ytpigelcckiejiaa.Cm
