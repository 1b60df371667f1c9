/- Which nodes can be come to: plain. graph.Reach. -/
import Derived.Test.YtpigelcckiejiaaGYa
import Derived.Test.YtpigelcckiejiaaCmQ
namespace Go.Proofs.Ytpigelcckiejiaa.Cm
open Go.RowKit
set_option linter.unusedVariables false
set_option linter.unusedSimpArgs false
set_option maxRecDepth 20000
set_option maxHeartbeats 8000000
inductive Rc (l : List Lk) (a : Int) : Int → Prop
  | start : Rc l a a
  | step {x : Lk} : x ∈ l → Rc l a x.f0 → Rc l a x.f1
def eB (b : Bool) : List DV := [.sc (.bool b)]
/-- What a Reach answers. -/
def RchOk (n : Int) (l : List Lk) (a : Int) (out : List Bool) : Prop := (¬ (chk n l = 0 ∧ 0 ≤ a ∧ a < n) → out = []) ∧ (chk n l = 0 ∧ 0 ≤ a ∧ a < n → (out.length : Int) = n ∧ ∀ v : Nat, out[v]? = some true ↔ (v : Int) < n ∧ Rc l a v)
theorem RchOk.one {n : Int} {l : List Lk} {a : Int} {x y : List Bool} (hx : RchOk n l a x) (hy : RchOk n l a y) : x = y := by
  by_cases h : chk n l = 0 ∧ 0 ≤ a ∧ a < n
  · obtain ⟨x1, x2⟩ := hx.2 h
    obtain ⟨y1, y2⟩ := hy.2 h
    apply List.ext_getElem (by omega)
    intro i h1 h2
    have hxi := x2 i
    have hyi := y2 i
    rw [List.getElem?_eq_getElem h1] at hxi
    rw [List.getElem?_eq_getElem h2] at hyi
    simp only [Option.some.injEq] at hxi hyi
    cases hb : x[i] with
    | true => exact (hyi.2 (hxi.1 hb)).symm
    | false =>
      cases hc : y[i] with
      | false => rfl
      | true => rw [hxi.2 (hyi.1 hc)] at hb; cases hb
  · rw [hx.1 h, hy.1 h]
theorem ck_of {n : Int} {l : List Lk} (h : chk n l = 0) : ckOk n l ∧ 1 ≤ n ∧ n ≤ 16 ∧ l.length ≤ 64 := by
  unfold chk at h
  split at h
  · cases h
  · split at h
    · cases h
    · split at h
      · rename_i h1 h2 h3; exact ⟨h3, by omega, by omega, by omega⟩
      · cases h
theorem nodup_lt : ∀ (n : Nat) (L : List Nat), L.Nodup → (∀ x ∈ L, x < n) → L.length ≤ n
  | 0, L, _, h => by
    cases L with
    | nil => simp
    | cons x L => have := h x (by simp); omega
  | n + 1, L, hn, h => by
    have key : ∀ M : List Nat, M.Nodup → M.length ≤ (M.filter (fun x => decide (x ≠ n))).length + 1 := by
      intro M
      induction M with
      | nil => simp
      | cons x M ih =>
        intro hM
        obtain ⟨h1, h2⟩ := List.nodup_cons.1 hM
        by_cases hx : x = n
        · subst hx
          have : M.filter (fun y => decide (y ≠ x)) = M := List.filter_eq_self.2 (fun y hy => by simp; rintro rfl; exact h1 hy)
          rw [List.filter_cons_of_neg (by simp), this]; simp
        · rw [List.filter_cons_of_pos (by simpa using hx)]
          have := ih h2
          simp only [List.length_cons]; omega
    have h1 := key L hn
    have h2 := nodup_lt n (L.filter (fun x => decide (x ≠ n))) (hn.sublist List.filter_sublist) (fun x hx => by
      obtain ⟨h3, h4⟩ := List.mem_filter.1 hx
      have := h x h3
      simp at h4; omega)
    omega
theorem mem_outsI (l : List Lk) (v : Int) : ∀ i k, k ∈ outsI l v i ↔ k < i ∧ ∃ x, l[k]? = some x ∧ x.f0 = v
  | 0, k => by simp [outsI]
  | i + 1, k => by
    rw [outsI, List.mem_append, mem_outsI l v i k]
    constructor
    · rintro (⟨h1, h2⟩ | h)
      · exact ⟨by omega, h2⟩
      · split at h
        · rename_i x hx
          split at h
          · rename_i hv
            simp at h; subst h
            exact ⟨by omega, x, hx, hv⟩
          · cases h
        · cases h
    · rintro ⟨h1, x, hx, hv⟩
      by_cases hk : k < i
      · exact .inl ⟨hk, x, hx, hv⟩
      · right
        have : k = i := by omega
        subst this
        rw [hx]; simp [hv]
/-- Few links lead from a node of a network that may be. -/
theorem outs_few {n : Int} {l : List Lk} (h : chk n l = 0) (v : Int) : (outsI l v l.length).length < 20 := by
  obtain ⟨⟨h1, h2⟩, _, h16, _⟩ := ck_of h
  have hm : ((outsI l v l.length).map (fun k => (key l k).toNat)).length ≤ 16 := by
    refine nodup_lt 16 _ ?_ ?_
    · rw [List.Nodup, List.pairwise_map]
      refine (outsI_sorted l v l.length).imp_of_mem (fun {a b} ha hb hab he => ?_)
      obtain ⟨_, x, hx, hxv⟩ := (mem_outsI l v _ a).1 ha
      obtain ⟨_, y, hy, hyv⟩ := (mem_outsI l v _ b).1 hb
      obtain ⟨ha2, hax⟩ := List.getElem?_eq_some_iff.1 hx
      obtain ⟨hb2, hbx⟩ := List.getElem?_eq_some_iff.1 hy
      have hp := List.pairwise_iff_getElem.1 h2 a b ha2 hb2 hab
      have hkx : key l a = x.f1 := by simp [key, hx]
      have hky : key l b = y.f1 := by simp [key, hy]
      have lx := h1 x (List.mem_of_getElem? hx)
      have ly := h1 y (List.mem_of_getElem? hy)
      rw [hax, hbx] at hp
      rw [hkx, hky] at he
      unfold lkOk at lx ly
      exact hp ⟨by rw [hxv, hyv], by omega⟩
    · intro k hk
      obtain ⟨a, ha, rfl⟩ := List.mem_map.1 hk
      obtain ⟨_, x, hx, hxv⟩ := (mem_outsI l v _ a).1 ha
      have lx := h1 x (List.mem_of_getElem? hx)
      have hkx : key l a = x.f1 := by simp [key, hx]
      rw [hkx]; unfold lkOk at lx; omega
  rw [List.length_map] at hm
  omega
def cntF (out : List Bool) : Nat := out.count false
theorem cntF_set {out : List Bool} {v : Nat} (h : out[v]? = some false) : cntF (out.set v true) + 1 = cntF out := by
  obtain ⟨hv, hx⟩ := List.getElem?_eq_some_iff.1 h
  induction out generalizing v with
  | nil => simp at hv
  | cons b out ih =>
    cases v with
    | zero =>
      simp at hx; subst hx
      simp [cntF]
    | succ v =>
      have := ih (v := v) (by simpa using h) (by simpa using hv) (by simpa using hx)
      simp only [cntF, List.set_cons_succ, List.count_cons] at this ⊢
      omega
/-- What holds of the marks and of those that are still to do. -/
def BF (l : List Lk) (a : Int) (out : List Bool) (todo more : List Nat) : Prop :=
  (∀ v : Nat, out[v]? = some true → Rc l a v) ∧ out[a.toNat]? = some true ∧ (∀ v ∈ todo, out[v]? = some true) ∧ ∀ k x, l[k]? = some x → out[x.f0.toNat]? = some true → x.f0.toNat ∈ todo ∨ out[x.f1.toNat]? = some true ∨ k ∈ more
theorem BF.close {n : Int} {l : List Lk} {a : Int} {out : List Bool} (h : BF l a out [] []) (hc : chk n l = 0) (ha : 0 ≤ a ∧ a < n) (hl : (out.length : Int) = n) : RchOk n l a out := by
  obtain ⟨h1, h2, _, h4⟩ := h
  obtain ⟨⟨hk, _⟩, _⟩ := ck_of hc
  refine ⟨fun hn => absurd ⟨hc, ha.1, ha.2⟩ hn, fun _ => ⟨hl, fun v => ⟨fun hv => ⟨?_, h1 v hv⟩, fun hv => ?_⟩⟩⟩
  · obtain ⟨hlt, _⟩ := List.getElem?_eq_some_iff.1 hv
    omega
  · have key : ∀ w, Rc l a w → out[w.toNat]? = some true := by
      intro w hw
      induction hw with
      | start => exact h2
      | step hx _ ih =>
        obtain ⟨k, hkx⟩ := List.mem_iff_getElem?.1 hx
        rcases h4 k _ hkx ih with h | h | h
        · cases h
        · exact h
        · cases h
    simpa using key v hv.2
/-- A queue of numbers. -/
def Qu (σ : Heap) (d : DV) (todo : List Nat) : Prop := ∃ t off full, d = .sl t off todo.length full.length ∧ σ.get t = some ⟨full, 3, true⟩ ∧ off + todo.length = full.length ∧ full.drop off = todo.map eI
theorem Qu.ne {σ : Heap} {d : DV} {todo : List Nat} (h : Qu σ d todo) {p : Nat} {o : AObj} (hp : σ.get p = some o) (hoe : o.e ≠ 3) : p ∉ tOf d := by
  obtain ⟨t, off, full, rfl, hg, _⟩ := h
  simp only [tOf, List.mem_singleton]
  rintro rfl
  rw [hg] at hp; cases hp; exact hoe rfl
theorem Qu.frame {σ σ' : Heap} {d : DV} {todo : List Nat} {X : List Nat} (h : Qu σ d todo) (hx : Ext X σ σ') (hd : ∀ q ∈ tOf d, q ∉ X) : Qu σ' d todo := by
  obtain ⟨t, off, full, rfl, hg, h1, h2⟩ := h
  exact ⟨t, off, full, rfl, hx.get hg (hd t (by simp [tOf])), h1, h2⟩
def rhI (n : Int) (l : List Lk) (a : Int) (tb : Nat) (σ0 : Heap) (m : Nat) (ts : List DV) (σ : Heap) : Prop := ∃ (out : List Bool) (todo : List Nat) (d : DV), m = cntF out * 2 + todo.length ∧ cntF out * 2 + todo.length ≤ 40 ∧ (out.length : Int) = n ∧ BF l a out todo [] ∧ σ.get tb = some ⟨out.map eB, 4, true⟩ ∧ Qu σ d todo ∧ (∀ q ∈ tOf d, σ0.n ≤ q) ∧ Ext [] σ0 σ ∧ TellsL ts (.any :: .imm (l.map eK) :: .any :: .any :: .any :: .any :: .any :: .sl tb 0 out.length out.length :: d :: .any :: .any :: .any :: .any :: .any :: .any :: .any :: .any :: .any :: .any :: .any :: .any :: .any :: .any :: .any :: .any :: .any :: .any :: .any :: .any :: .any :: .any :: .any :: .any :: .any :: .any :: .any :: .any :: .any :: .any :: .any :: .any :: .any :: .any :: .any :: .any :: .any :: .any :: .any :: .any :: .any :: .any :: .any :: .any :: .any :: .any :: .any :: .any :: .any :: .any :: .any :: .any :: .any :: .any :: .any :: .any :: .any :: .any :: .any :: [])
def rhJ (n : Int) (l : List Lk) (a : Int) (S : List Nat) (m0 : Nat) (tb : Nat) (σ0 : Heap) (m : Nat) (ts : List DV) (σ : Heap) : Prop := ∃ (j : Nat) (out : List Bool) (todo : List Nat) (d : DV), m = S.length + 1 - j ∧ j ≤ S.length ∧ cntF out * 2 + todo.length ≤ m0 ∧ (out.length : Int) = n ∧ BF l a out todo (S.drop j) ∧ (∀ k ∈ S, ∃ x, l[k]? = some x ∧ out[x.f0.toNat]? = some true) ∧ σ.get tb = some ⟨out.map eB, 4, true⟩ ∧ Qu σ d todo ∧ (∀ q ∈ tOf d, σ0.n ≤ q) ∧ Ext [] σ0 σ ∧ TellsL ts (.any :: .imm (l.map eK) :: .any :: .any :: .any :: .any :: .any :: .sl tb 0 out.length out.length :: d :: .any :: .any :: .any :: .any :: .any :: .any :: .any :: .any :: .any :: .any :: .any :: .any :: .any :: .any :: .any :: .any :: .any :: .any :: .any :: .any :: .any :: .any :: .any :: .any :: .any :: .any :: .any :: .any :: .any :: .any :: .any :: .any :: .any :: .any :: .imm (S.map eI) :: .sc (.int .i64 S.length) :: .sc (.int .i64 j) :: .any :: .any :: .any :: .any :: .any :: .any :: .any :: .any :: .any :: .any :: .any :: .any :: .any :: .any :: .any :: .any :: .any :: .any :: .any :: .any :: .any :: .any :: [])
theorem reach_ok (σ : Heap) (n : Int) (l : List Lk) (a : Int) (hw : ∀ x ∈ l, wK x) : ACalls Try.prog 13 [.sc (.int .i64 n), .imm (l.map eK), .sc (.int .i64 a)] σ (fun y σ' => ∃ out, RchOk n l a out ∧ y = .imm (out.map eB) ∧ Ext [] σ σ') := by
  have dcml : (l.map eK).length = l.length := by simp
  refine toImmE (e := 4) ?_
  refine ACalls.code hT Try.func13 rfl ?_
  simp only [Try.ntmps13, List.length_cons, List.length_nil, Nat.reduceSub, Nat.reduceAdd, List.replicate, List.cons_append, List.nil_append]
  repeat (first | (with_reducible refine AW.seq ?_) | (with_reducible refine AW.block ?_) | (with_reducible refine AW.skip ?_) | (with_reducible refine AW.ret ?_) | (with_reducible refine AW.exit ?_) | (with_reducible refine AW.reg hT ?_) | ((with_reducible refine AW.cond_true ?_ ?_); · rfl) | ((with_reducible refine AW.cond_false ?_ ?_); · rfl) | simp (maxSteps := 3000000) (maxDischargeDepth := 12) only [push_cast,appendX,reduceIte,reduceCtorEq,Nat.reduceSub,Nat.reduceAdd,Nat.reduceMul,Nat.reduceLT,Nat.reduceLeDiff,Nat.reduceEqDiff,Nat.reduceBEq,Int.reduceToNat,Int.reduceLT,Int.reduceLE,Int.reduceEq,Int.reduceNeg,Try.results13,dcml])
  refine AOpsL.call (first := []) (cap := []) hT rfl rfl rfl fn15 rfl (ACalls.mono (pcheck_ok _ n l hw) ?_)
  rintro y σ1 ⟨rfl, xt1⟩
  by_cases hc : chk n l = 0
  · have dcc : (chk n l == 0) = true := by simpa using hc
    by_cases ha : a < 0
    · have dca : decide (a < 0) = true := decide_eq_true ha
      repeat (first | (with_reducible refine AW.seq ?_) | (with_reducible refine AW.block ?_) | (with_reducible refine AW.skip ?_) | (with_reducible refine AW.ret ?_) | (with_reducible refine AW.exit ?_) | (with_reducible refine AW.reg hT ?_) | ((with_reducible refine AW.cond_true ?_ ?_); · rfl) | ((with_reducible refine AW.cond_false ?_ ?_); · rfl) | simp (maxSteps := 3000000) (maxDischargeDepth := 12) only [push_cast,appendX,reduceIte,reduceCtorEq,Nat.reduceSub,Nat.reduceAdd,Nat.reduceMul,Nat.reduceLT,Nat.reduceLeDiff,Nat.reduceEqDiff,Nat.reduceBEq,Int.reduceToNat,Int.reduceLT,Int.reduceLE,Int.reduceEq,Int.reduceNeg,Try.results13,dcml,xt1.2,xt1.ltT,xt1.leT,dcc,dca])
      exact ⟨[], ⟨fun _ => rfl, fun h => by omega⟩, Hold.nil _ _, by simp [tOf], xt1⟩
    have dca : decide (a < 0) = false := decide_eq_false ha
    by_cases hn : n ≤ a
    · have dcn : decide (n ≤ a) = true := decide_eq_true hn
      repeat (first | (with_reducible refine AW.seq ?_) | (with_reducible refine AW.block ?_) | (with_reducible refine AW.skip ?_) | (with_reducible refine AW.ret ?_) | (with_reducible refine AW.exit ?_) | (with_reducible refine AW.reg hT ?_) | ((with_reducible refine AW.cond_true ?_ ?_); · rfl) | ((with_reducible refine AW.cond_false ?_ ?_); · rfl) | simp (maxSteps := 3000000) (maxDischargeDepth := 12) only [push_cast,appendX,reduceIte,reduceCtorEq,Nat.reduceSub,Nat.reduceAdd,Nat.reduceMul,Nat.reduceLT,Nat.reduceLeDiff,Nat.reduceEqDiff,Nat.reduceBEq,Int.reduceToNat,Int.reduceLT,Int.reduceLE,Int.reduceEq,Int.reduceNeg,Try.results13,dcml,xt1.2,xt1.ltT,xt1.leT,dcc,dca,dcn])
      exact ⟨[], ⟨fun _ => rfl, fun h => by omega⟩, Hold.nil _ _, by simp [tOf], xt1⟩
    have dcn : decide (n ≤ a) = false := decide_eq_false hn
    obtain ⟨⟨hk, _⟩, hn1, hn16, hl64⟩ := ck_of hc
    obtain ⟨nn, rfl⟩ := Int.eq_ofNat_of_zero_le (show 0 ≤ n by omega)
    obtain ⟨aa, rfl⟩ := Int.eq_ofNat_of_zero_le (show 0 ≤ a by omega)
    have dcnn0 : ((0 : Int) ≤ (nn : Int)) = True := by simp
    have dca1 : ((aa : Int) < (nn : Int)) = True := by simp; omega
    have dca0 : ((0 : Int) ≤ (aa : Int)) = True := by simp
    have dcnb : (nn * 2 ≤ 140737488355328) = True := by simp; omega
    obtain ⟨out0, hout0⟩ : ∃ o, o = List.replicate nn false := ⟨_, rfl⟩
    have dcr : List.replicate nn [DV.sc (.bool false)] = out0.map eB := by rw [hout0, List.map_replicate]; rfl
    have dcol : (out0.map eB).length = nn := by rw [hout0]; simp
    have dco : (out0.map eB)[aa]? = some [.sc (.bool false)] := by rw [hout0]; simp [eB, List.getElem?_replicate]; omega
    have hset : (out0.map eB).set aa [.sc (.bool true)] = (out0.set aa true).map eB := by simp [List.map_set, eB]
    have hol : out0.length = nn := by simpa using dcol
    have ho0 : ∀ v : Nat, (out0.set aa true)[v]? = some true → v = aa := by
      intro v hv
      by_cases hva : aa = v
      · exact hva.symm
      · rw [List.getElem?_set_ne hva, hout0, List.getElem?_replicate] at hv
        split at hv
        · cases hv
        · cases hv
    have hbf : BF l aa (out0.set aa true) [aa] [] := by
      refine ⟨fun v hv => by rw [ho0 v hv]; exact .start, by rw [Int.toNat_natCast, List.getElem?_set_self (by omega)], fun v hv => by rw [List.mem_singleton.1 hv, List.getElem?_set_self (by omega)], fun k x hx hxo => .inl (by rw [ho0 _ hxo]; simp)⟩
    have hc40 : cntF (out0.set aa true) * 2 + [aa].length ≤ 40 := by
      have h1 : cntF (out0.set aa true) ≤ (out0.set aa true).length := List.count_le_length
      rw [List.length_set] at h1
      simp; omega
    repeat (first | (with_reducible refine AW.seq ?_) | (with_reducible refine AW.block ?_) | (with_reducible refine AW.skip ?_) | (with_reducible refine AW.ret ?_) | (with_reducible refine AW.exit ?_) | (with_reducible refine AW.reg hT ?_) | ((with_reducible refine AW.cond_true ?_ ?_); · rfl) | ((with_reducible refine AW.cond_false ?_ ?_); · rfl) | simp (maxSteps := 3000000) (maxDischargeDepth := 12) only [push_cast,appendX,reduceIte,reduceCtorEq,Nat.reduceSub,Nat.reduceAdd,Nat.reduceMul,Nat.reduceLT,Nat.reduceLeDiff,Nat.reduceEqDiff,Nat.reduceBEq,Int.reduceToNat,Int.reduceLT,Int.reduceLE,Int.reduceEq,Int.reduceNeg,Try.results13,dcml,xt1.2,xt1.ltT,xt1.leT,dcc,dca,dcn,dcnn0,dca1,dca0,dcnb,dcr,dcol,dco])
    refine AW.loop (rhI nn l aa σ1.n σ) (m := cntF (out0.set aa true) * 2 + 1) ⟨out0.set aa true, [aa], .sl (σ1.n + 1) 0 1 1, rfl, hc40, by simp [hol], hbf, by rw [← hset]; simp (maxSteps := 3000000) (maxDischargeDepth := 12) only [push_cast, appendX, Nat.reduceAdd, Nat.reduceEqDiff, Nat.reduceLT, Nat.reduceLeDiff, reduceIte, reduceCtorEq, dcml, xt1.2, xt1.ltT, xt1.leT, dcc, dca, dcn, dcnn0, dca1, dca0, dcnb, dcr, dcol, dco], ⟨σ1.n + 1, 0, [[.sc (.int .i64 aa)]], rfl, by simp (maxSteps := 3000000) (maxDischargeDepth := 12) only [push_cast, appendX, Nat.reduceAdd, Nat.reduceEqDiff, Nat.reduceLT, Nat.reduceLeDiff, reduceIte, reduceCtorEq, dcml, xt1.2, xt1.ltT, xt1.leT, dcc, dca, dcn, dcnn0, dca1, dca0, dcnb, dcr, dcol, dco], rfl, rfl⟩, by simp [tOf]; have := xt1.1; omega, by repeat (first | exact Ext.refl _ _ | assumption | refine Ext.push ?_ _ | ((refine Ext.set ?_ ?_ _); rotate_left; · (simp (maxSteps := 3000000) (maxDischargeDepth := 12) only [push_cast, appendX, Nat.reduceAdd, Nat.reduceEqDiff, Nat.reduceLT, Nat.reduceLeDiff, reduceIte, reduceCtorEq, dcml, xt1.2, xt1.ltT, xt1.leT, dcc, dca, dcn, dcnn0, dca1, dca0, dcnb, dcr, dcol, dco])) | ((refine Ext.then1 (by assumption) ?_ ?_); rotate_left; · (intro p hp _; first | assumption | exact List.mem_cons_of_mem _ hp | (cases hp; done) | (simp at hp; subst hp; simp)))), by (simp only [push_cast, TellsL, tells_any, tells_refl, List.length_set, hol])⟩ ?_
    have htb : σ.n ≤ σ1.n := xt1.1
    generalize σ1.n = tb at htb ⊢
    clear xt1 dcr dco dcol hset ho0 hbf hol hout0
    rintro m ts σ3 ⟨out, todo, d, rfl, h40, hol, hbf, gtb, hq, hnew, xt3, hts⟩
    refine AW.told hts ?_
    clear hts
    have hqb : tb ∉ tOf d := hq.ne gtb (by simp)
    obtain ⟨t, off, full, rfl, gtq, hof, hdr⟩ := hq
    have hol' : out.length = nn := by omega
    cases todo with
    | nil =>
      have dct : decide ((0 : Int) < (([] : List Nat).length : Int)) = false := rfl
      repeat (first | (with_reducible refine AW.seq ?_) | (with_reducible refine AW.block ?_) | (with_reducible refine AW.skip ?_) | (with_reducible refine AW.ret ?_) | (with_reducible refine AW.exit ?_) | (with_reducible refine AW.reg hT ?_) | ((with_reducible refine AW.cond_true ?_ ?_); · rfl) | ((with_reducible refine AW.cond_false ?_ ?_); · rfl) | simp (maxSteps := 3000000) (maxDischargeDepth := 12) only [push_cast,appendX,reduceIte,reduceCtorEq,Nat.reduceSub,Nat.reduceAdd,Nat.reduceMul,Nat.reduceLT,Nat.reduceLeDiff,Nat.reduceEqDiff,Nat.reduceBEq,Int.reduceToNat,Int.reduceLT,Int.reduceLE,Int.reduceEq,Int.reduceNeg,Try.results13,List.length_nil,Int.lt_irrefl,cast0,dcml,dcc,dca,dcn,dcnn0,dca1,dca0,dcnb,gtb,Heap.lt gtb,xt3.2,xt3.ltT,xt3.leT,gtq,Heap.lt gtq,dct])
      exact ⟨out, hbf.close hc ⟨by omega, by omega⟩ hol, (by have h := Hold.row gtb; simpa using h), by simp [tOf]; omega, xt3⟩
    | cons v todo =>
      have hvl : out[v]? = some true := hbf.2.2.1 v (by simp)
      have hdr0 : full.drop off = eI v :: full.drop (off + 1) := by
        rw [← List.drop_drop, hdr]; simp
      have dcf : full[off]? = some [.sc (.int .i64 v)] := by
        have := congrArg (fun l : List (List DV) => l[0]?) hdr0
        simpa [eI] using this
      have hdr1 : full.drop (off + 1) = todo.map eI := by
        rw [← List.drop_drop, hdr]; simp
      obtain ⟨N, hN⟩ : ∃ N, N = (v :: todo).length := ⟨_, rfl⟩
      rw [← hN] at hof ⊢
      have hNt : N = todo.length + 1 := by rw [hN]; simp
      have dct : decide ((0 : Int) < (N : Int)) = true := decide_eq_true (by omega)
      have dct1 : ((0 : Int) < (N : Int)) = True := by simp; omega
      have dct2 : ((1 : Int) ≤ (N : Int)) = True := by simp; omega
      have dct3 : ((N : Int) - 1).toNat = todo.length := by omega
      repeat (first | (with_reducible refine AW.seq ?_) | (with_reducible refine AW.block ?_) | (with_reducible refine AW.skip ?_) | (with_reducible refine AW.ret ?_) | (with_reducible refine AW.exit ?_) | (with_reducible refine AW.reg hT ?_) | ((with_reducible refine AW.cond_true ?_ ?_); · rfl) | ((with_reducible refine AW.cond_false ?_ ?_); · rfl) | simp (maxSteps := 3000000) (maxDischargeDepth := 12) only [push_cast,appendX,reduceIte,reduceCtorEq,Nat.reduceSub,Nat.reduceAdd,Nat.reduceMul,Nat.reduceLT,Nat.reduceLeDiff,Nat.reduceEqDiff,Nat.reduceBEq,Int.reduceToNat,Int.reduceLT,Int.reduceLE,Int.reduceEq,Int.reduceNeg,Try.results13,dcml,dcc,dca,dcn,dcnn0,dca1,dca0,dcnb,gtb,Heap.lt gtb,xt3.2,xt3.ltT,xt3.leT,gtq,Heap.lt gtq,dcf,dct,dct1,dct2,dct3])
      refine AOpsL.call (first := []) (cap := []) hT rfl rfl rfl fn16 rfl (ACalls.mono (outs_ok _ l v (outs_few hc v) (by omega)) ?_)
      rintro y σ4 ⟨S, ⟨hS1, hS2⟩, rfl, xt4⟩
      have hSm : ∀ k, k ∈ S ↔ ∃ x, l[k]? = some x ∧ x.f0 = v := fun k => by
        rw [hS1.mem_iff, mem_outsI]
        constructor
        · rintro ⟨_, h⟩; exact h
        · rintro ⟨x, hx, hv⟩; exact ⟨(List.getElem?_eq_some_iff.1 hx).1, x, hx, hv⟩
      have hSf : ∀ k ∈ S, ∃ x, l[k]? = some x ∧ out[x.f0.toNat]? = some true := fun k hkS => by
        obtain ⟨x, hx, hv⟩ := (hSm k).1 hkS
        exact ⟨x, hx, by rw [hv]; simpa using hvl⟩
      have hSl : S.length ≤ 1000000 := by
        have h1 := hS1.length_eq
        have h2 := outs_few hc v
        omega
      have hbf0 : BF l aa out todo (S.drop 0) := by
        obtain ⟨b1, b2, b3, b4⟩ := hbf
        refine ⟨b1, b2, fun w hw => b3 w (List.mem_cons_of_mem _ hw), fun k x hx hxo => ?_⟩
        rcases b4 k x hx hxo with h | h | h
        · rcases List.mem_cons.1 h with h | h
          · right; right
            have hlk := hk x (List.mem_of_getElem? hx)
            unfold lkOk at hlk
            exact (hSm k).2 ⟨x, hx, by omega⟩
          · exact .inl h
        · exact .inr (.inl h)
        · cases h
      have gtb4 := xt4.get gtb (by simp)
      have gtq4 := xt4.get gtq (by simp)
      have xt5 := xt3.trans xt4
      have dcSl : (S.map eI).length = S.length := by simp
      clear gtb gtq xt3 xt4 hbf hSm hdr hdr0 dcf hvl hS1 hS2
      repeat (first | (with_reducible refine AW.seq ?_) | (with_reducible refine AW.block ?_) | (with_reducible refine AW.skip ?_) | (with_reducible refine AW.ret ?_) | (with_reducible refine AW.exit ?_) | (with_reducible refine AW.reg hT ?_) | ((with_reducible refine AW.cond_true ?_ ?_); · rfl) | ((with_reducible refine AW.cond_false ?_ ?_); · rfl) | simp (maxSteps := 3000000) (maxDischargeDepth := 12) only [push_cast,appendX,reduceIte,reduceCtorEq,Nat.reduceSub,Nat.reduceAdd,Nat.reduceMul,Nat.reduceLT,Nat.reduceLeDiff,Nat.reduceEqDiff,Nat.reduceBEq,Int.reduceToNat,Int.reduceLT,Int.reduceLE,Int.reduceEq,Int.reduceNeg,Try.results13,dcml,dcc,dca,dcn,dcnn0,dca1,dca0,dcnb,dct,dct1,dct2,dct3,gtb4,Heap.lt gtb4,gtq4,Heap.lt gtq4,xt5.2,xt5.ltT,xt5.leT,dcSl])
      refine AW.loop (rhJ nn l aa S (cntF out * 2 + todo.length) tb σ) (m := S.length + 1) ⟨0, out, todo, .sl t (off + 1) todo.length full.length, rfl, Nat.zero_le _, Nat.le_refl _, hol, hbf0, hSf, gtb4, ⟨t, off + 1, full, rfl, gtq4, by omega, hdr1⟩, by simpa [tOf] using hnew, xt5, by (simp only [push_cast, TellsL, tells_any, tells_refl])⟩ ?_
      have hm0 : cntF out * 2 + todo.length < cntF out * 2 + N := by omega
      have hm40 : cntF out * 2 + todo.length ≤ 40 := by simp at h40; omega
      generalize cntF out * 2 + todo.length = m0 at hm0 hm40 ⊢
      clear gtb4 gtq4 xt5 hbf0 hSf hol hol' hnew hqb dct dct1 dct2 dct3 hdr1 hof hN hNt
      rintro m ts σ5 ⟨j, out, todo, d, rfl, hjS, hmm, hol, hbf, hSf, gtb5, hq, hnew, xt5, hts⟩
      refine AW.told hts ?_
      clear hts
      have hqb : tb ∉ tOf d := hq.ne gtb5 (by simp)
      have hol' : out.length = nn := by omega
      by_cases hj : j < S.length
      · have dcj : decide ((j : Int) < (S.length : Int)) = true := decide_eq_true (by omega)
        have dcj1 : ((j : Int) < (S.length : Int)) = True := by simp; omega
        have dcj0 : ((0 : Int) ≤ (j : Int)) = True := by simp
        have dcwj : IntKind.i64.wrap ((j : Int) + 1) = (j : Int) + 1 := wrap_i64 (by omega) (by omega)
        obtain ⟨k, hkS⟩ : ∃ k, k = S[j] := ⟨_, rfl⟩
        have hkm : k ∈ S := by rw [hkS]; exact List.getElem_mem _
        have hdj : S.drop j = k :: S.drop (j + 1) := by rw [hkS]; exact List.drop_eq_getElem_cons hj
        have dcek : (S.map eI)[j]? = some [.sc (.int .i64 k)] := by rw [List.getElem?_map, List.getElem?_eq_getElem hj, ← hkS]; rfl
        obtain ⟨x, hx, hxo⟩ := hSf k hkm
        have hkl := (List.getElem?_eq_some_iff.1 hx).1
        have dck1 : ((k : Int) < (l.length : Int)) = True := by simp; omega
        have dck0 : ((0 : Int) ≤ (k : Int)) = True := by simp
        have hlk := hk x (List.mem_of_getElem? hx)
        unfold lkOk at hlk
        obtain ⟨w, hw1⟩ := Int.eq_ofNat_of_zero_le hlk.2.2.1
        have dcel : (l.map eK)[k]? = some (eK x) := by rw [List.getElem?_map, hx]; rfl
        rw [eK_eq, hw1] at dcel
        have dcw1 : ((w : Int) < (out.length : Int)) = True := by simp; omega
        have dcw0 : ((0 : Int) ≤ (w : Int)) = True := by simp
        have dcol : (out.map eB).length = out.length := by simp
        have hwl : w < out.length := by omega
        rw [hdj] at hbf
        cases hb : out[w]'hwl with
        | true =>
          have dcow : (out.map eB)[w]? = some [.sc (.bool true)] := by rw [List.getElem?_map, List.getElem?_eq_getElem hwl, hb]; rfl
          repeat (first | (with_reducible refine AW.seq ?_) | (with_reducible refine AW.block ?_) | (with_reducible refine AW.skip ?_) | (with_reducible refine AW.ret ?_) | (with_reducible refine AW.exit ?_) | (with_reducible refine AW.reg hT ?_) | ((with_reducible refine AW.cond_true ?_ ?_); · rfl) | ((with_reducible refine AW.cond_false ?_ ?_); · rfl) | simp (maxSteps := 3000000) (maxDischargeDepth := 12) only [push_cast,appendX,reduceIte,reduceCtorEq,Nat.reduceSub,Nat.reduceAdd,Nat.reduceMul,Nat.reduceLT,Nat.reduceLeDiff,Nat.reduceEqDiff,Nat.reduceBEq,Int.reduceToNat,Int.reduceLT,Int.reduceLE,Int.reduceEq,Int.reduceNeg,Try.results13,dcml,dcc,dca,dcn,dcnn0,dca1,dca0,dcnb,dcSl,gtb5,Heap.lt gtb5,xt5.2,xt5.ltT,xt5.leT,dcj,dcj1,dcj0,dcwj,dcek,dck1,dck0,dcel,dcw1,dcw0,dcol,dcow])
          refine ⟨S.length + 1 - (j + 1), by omega, j + 1, out, todo, d, rfl, hj, hmm, hol, ?_, hSf, gtb5, hq, hnew, xt5, by (simp only [push_cast, TellsL, tells_any, tells_refl])⟩
          obtain ⟨b1, b2, b3, b4⟩ := hbf
          refine ⟨b1, b2, b3, fun k' x' hx' hxo' => ?_⟩
          rcases b4 k' x' hx' hxo' with h | h | h
          · exact .inl h
          · exact .inr (.inl h)
          · rcases List.mem_cons.1 h with rfl | h
            · rw [hx] at hx'; cases hx'
              right; left
              rw [hw1, Int.toNat_natCast, List.getElem?_eq_getElem hwl, hb]
            · exact .inr (.inr h)
        | false =>
          have dcow : (out.map eB)[w]? = some [.sc (.bool false)] := by rw [List.getElem?_map, List.getElem?_eq_getElem hwl, hb]; rfl
          obtain ⟨t, off, full, rfl, gtq, hof, hdr⟩ := hq
          have htt : tb ≠ t := by simpa [tOf] using hqb
          have hlb := Heap.lt gtb5
          have hlq := Heap.lt gtq
          have hcf : cntF (out.set w true) + 1 = cntF out := cntF_set (by rw [List.getElem?_eq_getElem hwl, hb])
          have hset : (out.map eB).set w [.sc (.bool true)] = (out.set w true).map eB := by simp [List.map_set, eB]
          have hbf2 : BF l aa (out.set w true) (todo ++ [w]) (S.drop (j + 1)) := by
            obtain ⟨b1, b2, b3, b4⟩ := hbf
            have hst : ∀ u : Nat, out[u]? = some true → (out.set w true)[u]? = some true := fun u hu => by
              by_cases hwu : w = u
              · subst hwu; exact List.getElem?_set_self hwl
              · rw [List.getElem?_set_ne hwu]; exact hu
            have hts : ∀ u : Nat, (out.set w true)[u]? = some true → u = w ∨ out[u]? = some true := fun u hu => by
              by_cases hwu : w = u
              · exact .inl hwu.symm
              · rw [List.getElem?_set_ne hwu] at hu; exact .inr hu
            refine ⟨fun u hu => ?_, hst _ b2, fun u hu => ?_, fun k' x' hx' hxo' => ?_⟩
            · rcases hts u hu with rfl | hu
              · have := Rc.step (List.mem_of_getElem? hx) (show Rc l aa x.f0 by
                  have h1 := b1 _ hxo
                  have h2 : ((x.f0.toNat : Nat) : Int) = x.f0 := by omega
                  rw [h2] at h1; exact h1)
                rw [hw1] at this; exact this
              · exact b1 u hu
            · rcases List.mem_append.1 hu with hu | hu
              · exact hst u (b3 u hu)
              · rw [List.mem_singleton.1 hu]; exact List.getElem?_set_self hwl
            · rcases hts _ hxo' with h | h
              · left; rw [h]; simp
              · rcases b4 k' x' hx' h with h | h | h
                · exact .inl (List.mem_append_left _ h)
                · exact .inr (.inl (hst _ h))
                · rcases List.mem_cons.1 h with rfl | h
                  · rw [hx] at hx'; cases hx'
                    right; left
                    rw [hw1, Int.toNat_natCast]; exact List.getElem?_set_self hwl
                  · exact .inr (.inr h)
          have hSf2 : ∀ k ∈ S, ∃ x, l[k]? = some x ∧ (out.set w true)[x.f0.toNat]? = some true := fun k hk' => by
            obtain ⟨x', h1, h2⟩ := hSf k hk'
            refine ⟨x', h1, ?_⟩
            by_cases hwu : w = x'.f0.toNat
            · rw [← hwu]; exact List.getElem?_set_self hwl
            · rw [List.getElem?_set_ne hwu]; exact h2
          have hlen2 : (out.set w true).length = out.length := List.length_set
          have hmm2 : cntF (out.set w true) * 2 + (todo ++ [w]).length ≤ m0 := by simp; omega
          have dctt : (t = tb) = False := by simp [Ne.symm htt]
          have dctb : (tb = t) = False := by simp [htt]
          have hnt := hnew t (by simp [tOf])
          by_cases hoz : off = 0
          · subst hoz
            have hfl : todo.length = full.length := by omega
            rw [hfl]
            have dcfb : ((full.length + 1) * 9 ≤ 140737488355328) = True := by simp; omega
            repeat (first | (with_reducible refine AW.seq ?_) | (with_reducible refine AW.block ?_) | (with_reducible refine AW.skip ?_) | (with_reducible refine AW.ret ?_) | (with_reducible refine AW.exit ?_) | (with_reducible refine AW.reg hT ?_) | ((with_reducible refine AW.cond_true ?_ ?_); · rfl) | ((with_reducible refine AW.cond_false ?_ ?_); · rfl) | simp (maxSteps := 3000000) (maxDischargeDepth := 12) only [push_cast,appendX,reduceIte,reduceCtorEq,Nat.reduceSub,Nat.reduceAdd,Nat.reduceMul,Nat.reduceLT,Nat.reduceLeDiff,Nat.reduceEqDiff,Nat.reduceBEq,Int.reduceToNat,Int.reduceLT,Int.reduceLE,Int.reduceEq,Int.reduceNeg,Try.results13,dcml,dcc,dca,dcn,dcnn0,dca1,dca0,dcnb,dcSl,gtb5,Heap.lt gtb5,xt5.2,xt5.ltT,xt5.leT,dcj,dcj1,dcj0,dcwj,dcek,dck1,dck0,dcel,dcw1,dcw0,dcol,dcow,gtq,Heap.lt gtq,dctt,dctb,dcfb])
            refine ⟨S.length + 1 - (j + 1), by omega, j + 1, out.set w true, todo ++ [w], .sl t 0 (full.length + 1) (full.length + 1), rfl, hj, hmm2, by rw [hlen2]; exact hol, hbf2, hSf2, ?_, ⟨t, 0, full ++ [eI w], by simp [hfl], ?_, by simp [hfl], by rw [List.drop_zero] at hdr ⊢; rw [hdr]; simp⟩, by simpa [tOf] using hnt, ?_, by (simp only [push_cast, TellsL, tells_any, tells_refl, hlen2])⟩
            · rw [← hset]; simp (maxSteps := 3000000) (maxDischargeDepth := 12) only [push_cast, appendX, Nat.reduceAdd, Nat.reduceEqDiff, Nat.reduceLT, Nat.reduceLeDiff, reduceIte, reduceCtorEq, dctt, dctb, dcml, dcc, dca, dcn, dcnn0, dca1, dca0, dcnb, dcSl, gtb5, Heap.lt gtb5, xt5.2, xt5.ltT, xt5.leT, dcj, dcj1, dcj0, dcwj, dcek, dck1, dck0, dcel, dcw1, dcw0, dcol, dcow, gtq, Heap.lt gtq, dctt, dctb, dcfb]
            · simp (maxSteps := 3000000) (maxDischargeDepth := 12) only [push_cast, appendX, Nat.reduceAdd, Nat.reduceEqDiff, Nat.reduceLT, Nat.reduceLeDiff, reduceIte, reduceCtorEq, dctt, dctb, eI, dcml, dcc, dca, dcn, dcnn0, dca1, dca0, dcnb, dcSl, gtb5, Heap.lt gtb5, xt5.2, xt5.ltT, xt5.leT, dcj, dcj1, dcj0, dcwj, dcek, dck1, dck0, dcel, dcw1, dcw0, dcol, dcow, gtq, Heap.lt gtq, dctt, dctb, dcfb]
            · refine xt5.then (Y := [tb, t]) (by repeat (first | exact Ext.refl _ _ | assumption | refine Ext.push ?_ _ | ((refine Ext.set ?_ ?_ _); rotate_left; · (simp (maxSteps := 3000000) (maxDischargeDepth := 12) only [push_cast, appendX, Nat.reduceAdd, Nat.reduceEqDiff, Nat.reduceLT, Nat.reduceLeDiff, reduceIte, reduceCtorEq, dcml, dcc, dca, dcn, dcnn0, dca1, dca0, dcnb, dcSl, gtb5, Heap.lt gtb5, xt5.2, xt5.ltT, xt5.leT, dcj, dcj1, dcj0, dcwj, dcek, dck1, dck0, dcel, dcw1, dcw0, dcol, dcow, gtq, Heap.lt gtq, dctt, dctb, dcfb])) | ((refine Ext.then1 (by assumption) ?_ ?_); rotate_left; · (intro p hp _; first | assumption | exact List.mem_cons_of_mem _ hp | (cases hp; done) | (simp at hp; subst hp; simp))))) (by intro q hq hl; simp at hq; rcases hq with rfl | rfl <;> omega)
          · have dcoz : (off = 0) = False := by simp [hoz]
            repeat (first | (with_reducible refine AW.seq ?_) | (with_reducible refine AW.block ?_) | (with_reducible refine AW.skip ?_) | (with_reducible refine AW.ret ?_) | (with_reducible refine AW.exit ?_) | (with_reducible refine AW.reg hT ?_) | ((with_reducible refine AW.cond_true ?_ ?_); · rfl) | ((with_reducible refine AW.cond_false ?_ ?_); · rfl) | simp (maxSteps := 3000000) (maxDischargeDepth := 12) only [push_cast,appendX,reduceIte,reduceCtorEq,Nat.reduceSub,Nat.reduceAdd,Nat.reduceMul,Nat.reduceLT,Nat.reduceLeDiff,Nat.reduceEqDiff,Nat.reduceBEq,Int.reduceToNat,Int.reduceLT,Int.reduceLE,Int.reduceEq,Int.reduceNeg,Try.results13,dcml,dcc,dca,dcn,dcnn0,dca1,dca0,dcnb,dcSl,gtb5,Heap.lt gtb5,xt5.2,xt5.ltT,xt5.leT,dcj,dcj1,dcj0,dcwj,dcek,dck1,dck0,dcel,dcw1,dcw0,dcol,dcow,gtq,Heap.lt gtq,dctt,dctb,dcoz])
            refine AOpsL.rule hT rfl (AOp.appendQ (full := full) hT rfl rfl rfl rfl rfl (by decide) (l := [eI w]) (by simp (maxSteps := 3000000) (maxDischargeDepth := 12) only [push_cast,appendX,reduceIte,reduceCtorEq,Nat.reduceSub,Nat.reduceAdd,Nat.reduceMul,Nat.reduceLT,Nat.reduceLeDiff,Nat.reduceEqDiff,Nat.reduceBEq,Int.reduceToNat,Int.reduceLT,Int.reduceLE,Int.reduceEq,Int.reduceNeg,sliceD,eI,dcml,dcc,dca,dcn,dcnn0,dca1,dca0,dcnb,dcSl,gtb5,Heap.lt gtb5,xt5.2,xt5.ltT,xt5.leT,dcj,dcj1,dcj0,dcwj,dcek,dck1,dck0,dcel,dcw1,dcw0,dcol,dcow,gtq,Heap.lt gtq,dctt,dctb,dcoz]) (by simp [eI]) (by simp) (by simp (maxSteps := 3000000) (maxDischargeDepth := 12) only [push_cast, appendX, Nat.reduceAdd, Nat.reduceEqDiff, Nat.reduceLT, Nat.reduceLeDiff, reduceIte, reduceCtorEq, dctt, dctb, dcml, dcc, dca, dcn, dcnn0, dca1, dca0, dcnb, dcSl, gtb5, Heap.lt gtb5, xt5.2, xt5.ltT, xt5.leT, dcj, dcj1, dcj0, dcwj, dcek, dck1, dck0, dcel, dcw1, dcw0, dcol, dcow, gtq, Heap.lt gtq, dctt, dctb, dcoz]) rfl hof (by simp; omega) ?_ ?_)
            · simp only [List.length_cons, List.length_nil, Nat.zero_add]
              repeat (first | (with_reducible refine AW.seq ?_) | (with_reducible refine AW.block ?_) | (with_reducible refine AW.skip ?_) | (with_reducible refine AW.ret ?_) | (with_reducible refine AW.exit ?_) | (with_reducible refine AW.reg hT ?_) | ((with_reducible refine AW.cond_true ?_ ?_); · rfl) | ((with_reducible refine AW.cond_false ?_ ?_); · rfl) | simp (maxSteps := 3000000) (maxDischargeDepth := 12) only [push_cast,appendX,reduceIte,reduceCtorEq,Nat.reduceSub,Nat.reduceAdd,Nat.reduceMul,Nat.reduceLT,Nat.reduceLeDiff,Nat.reduceEqDiff,Nat.reduceBEq,Int.reduceToNat,Int.reduceLT,Int.reduceLE,Int.reduceEq,Int.reduceNeg,Try.results13,dcml,dcc,dca,dcn,dcnn0,dca1,dca0,dcnb,dcSl,gtb5,Heap.lt gtb5,xt5.2,xt5.ltT,xt5.leT,dcj,dcj1,dcj0,dcwj,dcek,dck1,dck0,dcel,dcw1,dcw0,dcol,dcow,gtq,Heap.lt gtq,dctt,dctb,dcoz])
              refine ⟨S.length + 1 - (j + 1), by omega, j + 1, out.set w true, todo ++ [w], .sl t off (todo.length + 1) (full.length + 1), rfl, hj, hmm2, by rw [hlen2]; exact hol, hbf2, hSf2, ?_, ⟨t, off, full ++ [eI w], by simp, ?_, by simp; omega, by rw [List.drop_append_of_le_length (by omega), hdr]; simp⟩, by simpa [tOf] using hnt, ?_, by (simp only [push_cast, TellsL, tells_any, tells_refl, hlen2])⟩
              · rw [← hset]; simp (maxSteps := 3000000) (maxDischargeDepth := 12) only [push_cast, appendX, Nat.reduceAdd, Nat.reduceEqDiff, Nat.reduceLT, Nat.reduceLeDiff, reduceIte, reduceCtorEq, dctt, dctb, dcml, dcc, dca, dcn, dcnn0, dca1, dca0, dcnb, dcSl, gtb5, Heap.lt gtb5, xt5.2, xt5.ltT, xt5.leT, dcj, dcj1, dcj0, dcwj, dcek, dck1, dck0, dcel, dcw1, dcw0, dcol, dcow, gtq, Heap.lt gtq, dctt, dctb, dcoz]
              · simp (maxSteps := 3000000) (maxDischargeDepth := 12) only [push_cast, appendX, Nat.reduceAdd, Nat.reduceEqDiff, Nat.reduceLT, Nat.reduceLeDiff, reduceIte, reduceCtorEq, dctt, dctb, eI, dcml, dcc, dca, dcn, dcnn0, dca1, dca0, dcnb, dcSl, gtb5, Heap.lt gtb5, xt5.2, xt5.ltT, xt5.leT, dcj, dcj1, dcj0, dcwj, dcek, dck1, dck0, dcel, dcw1, dcw0, dcol, dcow, gtq, Heap.lt gtq, dctt, dctb, dcoz]
              · refine xt5.then (Y := [tb, t]) (by repeat (first | exact Ext.refl _ _ | assumption | refine Ext.push ?_ _ | ((refine Ext.set ?_ ?_ _); rotate_left; · (simp (maxSteps := 3000000) (maxDischargeDepth := 12) only [push_cast, appendX, Nat.reduceAdd, Nat.reduceEqDiff, Nat.reduceLT, Nat.reduceLeDiff, reduceIte, reduceCtorEq, dcml, dcc, dca, dcn, dcnn0, dca1, dca0, dcnb, dcSl, gtb5, Heap.lt gtb5, xt5.2, xt5.ltT, xt5.leT, dcj, dcj1, dcj0, dcwj, dcek, dck1, dck0, dcel, dcw1, dcw0, dcol, dcow, gtq, Heap.lt gtq, dctt, dctb, dcoz])) | ((refine Ext.then1 (by assumption) ?_ ?_); rotate_left; · (intro p hp _; first | assumption | exact List.mem_cons_of_mem _ hp | (cases hp; done) | (simp at hp; subst hp; simp))))) (by intro q hq hl; simp at hq; rcases hq with rfl | rfl <;> omega)
            · simp only [List.length_cons, List.length_nil, Nat.zero_add, Heap.n_push, Heap.n_set]
              have h5 := xt5.1
              repeat (first | (with_reducible refine AW.seq ?_) | (with_reducible refine AW.block ?_) | (with_reducible refine AW.skip ?_) | (with_reducible refine AW.ret ?_) | (with_reducible refine AW.exit ?_) | (with_reducible refine AW.reg hT ?_) | ((with_reducible refine AW.cond_true ?_ ?_); · rfl) | ((with_reducible refine AW.cond_false ?_ ?_); · rfl) | simp (maxSteps := 3000000) (maxDischargeDepth := 12) only [push_cast,appendX,reduceIte,reduceCtorEq,Nat.reduceSub,Nat.reduceAdd,Nat.reduceMul,Nat.reduceLT,Nat.reduceLeDiff,Nat.reduceEqDiff,Nat.reduceBEq,Int.reduceToNat,Int.reduceLT,Int.reduceLE,Int.reduceEq,Int.reduceNeg,Try.results13,dcml,dcc,dca,dcn,dcnn0,dca1,dca0,dcnb,dcSl,gtb5,Heap.lt gtb5,xt5.2,xt5.ltT,xt5.leT,dcj,dcj1,dcj0,dcwj,dcek,dck1,dck0,dcel,dcw1,dcw0,dcol,dcow,gtq,Heap.lt gtq,dctt,dctb,dcoz])
              refine ⟨S.length + 1 - (j + 1), by omega, j + 1, out.set w true, todo ++ [w], .sl (σ5.n + 1) 0 (todo.length + 1) (todo.length + 1), rfl, hj, hmm2, by rw [hlen2]; exact hol, hbf2, hSf2, ?_, ⟨σ5.n + 1, 0, full.drop off ++ [eI w], by simp [hdr], ?_, by simp [hdr], by rw [List.drop_zero, hdr]; simp⟩, by simp [tOf]; omega, ?_, by (simp only [push_cast, TellsL, tells_any, tells_refl, hlen2])⟩
              · rw [← hset]; simp (maxSteps := 3000000) (maxDischargeDepth := 12) only [push_cast, appendX, Nat.reduceAdd, Nat.reduceEqDiff, Nat.reduceLT, Nat.reduceLeDiff, reduceIte, reduceCtorEq, dctt, dctb, dcml, dcc, dca, dcn, dcnn0, dca1, dca0, dcnb, dcSl, gtb5, Heap.lt gtb5, xt5.2, xt5.ltT, xt5.leT, dcj, dcj1, dcj0, dcwj, dcek, dck1, dck0, dcel, dcw1, dcw0, dcol, dcow, gtq, Heap.lt gtq, dctt, dctb, dcoz]
              · simp (maxSteps := 3000000) (maxDischargeDepth := 12) only [push_cast, appendX, Nat.reduceAdd, Nat.reduceEqDiff, Nat.reduceLT, Nat.reduceLeDiff, reduceIte, reduceCtorEq, dctt, dctb, eI, dcml, dcc, dca, dcn, dcnn0, dca1, dca0, dcnb, dcSl, gtb5, Heap.lt gtb5, xt5.2, xt5.ltT, xt5.leT, dcj, dcj1, dcj0, dcwj, dcek, dck1, dck0, dcel, dcw1, dcw0, dcol, dcow, gtq, Heap.lt gtq, dctt, dctb, dcoz]
              · refine xt5.then (Y := [tb]) (by repeat (first | exact Ext.refl _ _ | assumption | refine Ext.push ?_ _ | ((refine Ext.set ?_ ?_ _); rotate_left; · (simp (maxSteps := 3000000) (maxDischargeDepth := 12) only [push_cast, appendX, Nat.reduceAdd, Nat.reduceEqDiff, Nat.reduceLT, Nat.reduceLeDiff, reduceIte, reduceCtorEq, dcml, dcc, dca, dcn, dcnn0, dca1, dca0, dcnb, dcSl, gtb5, Heap.lt gtb5, xt5.2, xt5.ltT, xt5.leT, dcj, dcj1, dcj0, dcwj, dcek, dck1, dck0, dcel, dcw1, dcw0, dcol, dcow, gtq, Heap.lt gtq, dctt, dctb, dcoz])) | ((refine Ext.then1 (by assumption) ?_ ?_); rotate_left; · (intro p hp _; first | assumption | exact List.mem_cons_of_mem _ hp | (cases hp; done) | (simp at hp; subst hp; simp))))) (by intro q hq hl; simp at hq; omega)
      · have dcj : decide ((j : Int) < (S.length : Int)) = false := decide_eq_false (by omega)
        repeat (first | (with_reducible refine AW.seq ?_) | (with_reducible refine AW.block ?_) | (with_reducible refine AW.skip ?_) | (with_reducible refine AW.ret ?_) | (with_reducible refine AW.exit ?_) | (with_reducible refine AW.reg hT ?_) | ((with_reducible refine AW.cond_true ?_ ?_); · rfl) | ((with_reducible refine AW.cond_false ?_ ?_); · rfl) | simp (maxSteps := 3000000) (maxDischargeDepth := 12) only [push_cast,appendX,reduceIte,reduceCtorEq,Nat.reduceSub,Nat.reduceAdd,Nat.reduceMul,Nat.reduceLT,Nat.reduceLeDiff,Nat.reduceEqDiff,Nat.reduceBEq,Int.reduceToNat,Int.reduceLT,Int.reduceLE,Int.reduceEq,Int.reduceNeg,Try.results13,dcml,dcc,dca,dcn,dcnn0,dca1,dca0,dcnb,dcSl,gtb5,Heap.lt gtb5,xt5.2,xt5.ltT,xt5.leT,dcj])
        have hje : S.drop j = [] := List.drop_eq_nil_of_le (by omega)
        rw [hje] at hbf
        exact ⟨cntF out * 2 + todo.length, by omega, out, todo, d, rfl, by omega, hol, hbf, gtb5, hq, hnew, xt5, by (simp only [push_cast, TellsL, tells_any, tells_refl])⟩
  · have dcc : (chk n l == 0) = false := by simpa using hc
    repeat (first | (with_reducible refine AW.seq ?_) | (with_reducible refine AW.block ?_) | (with_reducible refine AW.skip ?_) | (with_reducible refine AW.ret ?_) | (with_reducible refine AW.exit ?_) | (with_reducible refine AW.reg hT ?_) | ((with_reducible refine AW.cond_true ?_ ?_); · rfl) | ((with_reducible refine AW.cond_false ?_ ?_); · rfl) | simp (maxSteps := 3000000) (maxDischargeDepth := 12) only [push_cast,appendX,reduceIte,reduceCtorEq,Nat.reduceSub,Nat.reduceAdd,Nat.reduceMul,Nat.reduceLT,Nat.reduceLeDiff,Nat.reduceEqDiff,Nat.reduceBEq,Int.reduceToNat,Int.reduceLT,Int.reduceLE,Int.reduceEq,Int.reduceNeg,Try.results13,dcml,dcc])
    exact ⟨[], ⟨fun _ => rfl, fun h => absurd h.1 hc⟩, Hold.nil _ _, by simp [tOf], xt1⟩
end Go.Proofs.Ytpigelcckiejiaa.Cm
