/- PoolAll. -/
import Derived.Test.YthdamnemoaaigaaPool5
namespace Go.Proofs.Ythdamnemoaaigaa.Cm
open Go.RowKit
set_option linter.unusedVariables false
set_option linter.unusedSimpArgs false
set_option maxRecDepth 20000
set_option maxHeartbeats 8000000
theorem u64_nonneg (n : Int) : 0 ≤ IntKind.u64.wrap n := by
  simp [IntKind.wrap, IntKind.bits, IntKind.signed]
  omega
theorem u8_range {n : Int} (h : (Lit.int .u8 n).wf = true) : 0 ≤ n ∧ n ≤ 255 := by
  simp [Lit.wf, IntKind.min, IntKind.max, IntKind.bits, IntKind.signed] at h
  omega
theorem tm_range {a b : Int} (h : 0 ≤ a) (hb : 0 < b) : 0 ≤ a.tmod b ∧ a.tmod b < b := ⟨Int.tmod_nonneg _ h, Int.tmod_lt_of_pos _ hb⟩
theorem eraseIdx_perm : ∀ (l : List Int) (j : Nat) (x : Int), l[j]? = some x → l.Perm (x :: l.eraseIdx j)
  | [], j, x, h => by simp at h
  | a :: l, 0, x, h => by
    simp at h; subst h; simp
  | a :: l, j + 1, x, h => by
    simp at h
    exact (List.Perm.cons a (eraseIdx_perm l j x h)).trans (List.Perm.swap x a _)
theorem erase_perm {l r : List Int} {x : Int} {j : Nat} (h : l.Perm (x :: r)) (hj : l[j]? = some x) : (l.eraseIdx j).Perm r :=
  (List.perm_cons x).1 ((eraseIdx_perm l j x hj).symm.trans h)
theorem fst_erase (E : List (Int × DV)) : ∀ i, (E.eraseIdx i).map Prod.fst = (E.map Prod.fst).eraseIdx i := by
  induction E with
  | nil => intro i; simp
  | cons e E ih => intro i; cases i with
    | zero => rfl
    | succ i => simp [ih]
def alI (p t mN : Nat) (lo hi kp : Int) (m : Nat) (ts : List DV) (σ : Heap) : Prop := ∃ (i : Nat) (E : List (Int × DV)), m = mN + 1 - i ∧ i ≤ mN ∧ Pl σ p t (lo + i) hi E ∧ Gd lo hi (lo + i) E ∧ E.length ≤ i ∧ TellsL ts (.sc (.int .i64 lo) :: .any :: .sc (.int .u8 kp) :: .any :: .any :: .any :: .any :: .sc (.int .i64 mN) :: .ptr p 0 0 1 :: .any :: .any :: .any :: .any :: .any :: .any :: .any :: .any :: .any :: .any :: .any :: .any :: .any :: .any :: .any :: .any :: .any :: .any :: .any :: .any :: .any :: .any :: .any :: .any :: .any :: .any :: .sc (.int .i64 mN) :: .sc (.int .i64 i) :: .any :: .any :: .any :: .any :: .any :: .any :: .any :: .any :: .any :: .any :: .any :: .any :: .any :: .any :: .any :: .any :: .any :: .any :: .any :: .any :: .any :: .any :: .any :: .any :: .any :: .any :: .any :: .any :: .any :: .any :: .any :: .any :: .any :: .any :: .any :: .any :: .any :: .any :: .any :: .any :: .any :: .any :: .any :: .any :: .any :: .any :: .any :: .any :: .any :: .any :: .any :: .any :: .any :: .any :: .any :: .any :: .any :: .any :: .any :: .any :: .any :: .any :: .any :: .any :: .any :: .any :: .any :: .any :: .any :: .any :: .any :: .any :: .any :: .any :: .any :: [])
def alJ (p t : Nat) (S : List Int) (lo hi nx : Int) (m : Nat) (ts : List DV) (σ : Heap) : Prop := ∃ (k : Nat) (E : List (Int × DV)), m = S.length + 1 - k ∧ k ≤ S.length ∧ Pl σ p t nx hi E ∧ Gd lo hi nx E ∧ (E.map Prod.fst).Perm (S.drop k) ∧ TellsL ts (.any :: .any :: .any :: .any :: .any :: .any :: .any :: .any :: .ptr p 0 0 1 :: .any :: .any :: .any :: .any :: .any :: .any :: .any :: .any :: .any :: .any :: .any :: .any :: .any :: .any :: .any :: .any :: .any :: .any :: .any :: .any :: .any :: .any :: .any :: .any :: .any :: .any :: .any :: .any :: .any :: .any :: .any :: .any :: .any :: .any :: .any :: .any :: .any :: .any :: .any :: .any :: .any :: .any :: .any :: .any :: .any :: .any :: .any :: .any :: .any :: .any :: .any :: .any :: .any :: .any :: .any :: .any :: .any :: .any :: .any :: .any :: .any :: .any :: .any :: .any :: .any :: .any :: .any :: .any :: .imm (S.map eZ') :: .sc (.int .i64 S.length) :: .sc (.int .i64 k) :: .any :: .any :: .any :: .any :: .any :: .any :: .any :: .any :: .any :: .any :: .any :: .any :: .any :: .any :: .any :: .any :: .any :: .any :: .any :: .any :: .any :: .any :: .any :: .any :: .any :: .any :: .any :: .any :: .any :: .any :: .any :: .any :: [])
theorem all_ok (a0 n kp : Int) (ha : (Lit.int .i64 a0).wf = true) (hn : (Lit.int .u8 n).wf = true) (hk : (Lit.int .u8 kp).wf = true) : ACalls Try.prog 5 [.sc (.int .i64 a0), .sc (.int .u8 n), .sc (.int .u8 kp)] ⟨[]⟩ (fun x _ => x = .sc (.bool true)) := by
  generalize (⟨[]⟩ : Heap) = σ
  obtain ⟨n0, _⟩ := u8_range hn
  obtain ⟨k0, _⟩ := u8_range hk
  obtain ⟨r1, r2⟩ := tm_range (u64_nonneg a0) (b := 1000) (by decide)
  obtain ⟨q1, q2⟩ := tm_range n0 (b := 60) (by decide)
  obtain ⟨s1, s2⟩ := tm_range k0 (b := 4) (by decide)
  obtain ⟨r, dcr⟩ : ∃ r, (IntKind.u64.wrap a0).tmod 1000 = r := ⟨_, rfl⟩
  obtain ⟨q, dcq⟩ : ∃ q, n.tmod 60 = q := ⟨_, rfl⟩
  obtain ⟨s, dcs⟩ : ∃ s, kp.tmod 4 = s := ⟨_, rfl⟩
  rw [dcr] at r1 r2
  rw [dcq] at q1 q2
  rw [dcs] at s1 s2
  obtain ⟨lo, hlo⟩ : ∃ lo, lo = 16 + r := ⟨_, rfl⟩
  obtain ⟨mN, hmN⟩ : ∃ mN : Nat, (mN : Int) = q + 1 := ⟨(q + 1).toNat, by omega⟩
  obtain ⟨d, hd⟩ : ∃ d, d = s + 1 := ⟨_, rfl⟩
  obtain ⟨h0, hh0⟩ : ∃ h0, h0 = lo + (mN : Int) := ⟨_, rfl⟩
  obtain ⟨hi, hhi⟩ : ∃ hi, hi = h0 - 1 := ⟨_, rfl⟩
  have dcr2 : IntKind.i64.wrap r = r := wrap_i64 (by omega) (by omega)
  have dclo : IntKind.i64.wrap (16 + r) = lo := by rw [wrap_i64 (by omega) (by omega)]; omega
  have dcq2 : IntKind.i64.wrap q = q := wrap_i64 (by omega) (by omega)
  have dcmn : IntKind.i64.wrap (q + 1) = (mN : Int) := by rw [wrap_i64 (by omega) (by omega)]; omega
  have dch0 : IntKind.i64.wrap (lo + (mN : Int)) = h0 := by rw [wrap_i64 (by omega) (by omega)]; omega
  have dchi : IntKind.i64.wrap (h0 - 1) = hi := by rw [wrap_i64 (by omega) (by omega)]; omega
  refine ACalls.code hT Try.func5 rfl ?_
  simp only [Try.ntmps5, List.length_cons, List.length_nil, Nat.reduceSub, Nat.reduceAdd, List.replicate, List.cons_append, List.nil_append]
  repeat (first | (with_reducible first | refine AW.seq ?_ | refine AW.block ?_ | refine AW.skip ?_ | refine AW.ret ?_ | refine AW.exit ?_ | refine AW.reg hT ?_) | ((with_reducible refine AW.cond_true ?_ ?_); · rfl) | ((with_reducible refine AW.cond_false ?_ ?_); · rfl) | simp (maxSteps := 3000000) (maxDischargeDepth := 12) only [seval,push_cast,appendX,Try.results5,dcr,dcq,dcs,dcr2,dclo,dcq2,dcmn,dch0,dchi])
  refine AOpsL.call (first := []) (cap := []) hT rfl rfl rfl fn8 rfl (ACalls.mono (alive_ok _) ?_)
  rintro y σ1 ⟨rfl, xt1⟩
  repeat (first | (with_reducible first | refine AW.seq ?_ | refine AW.block ?_ | refine AW.skip ?_ | refine AW.ret ?_ | refine AW.exit ?_ | refine AW.reg hT ?_) | ((with_reducible refine AW.cond_true ?_ ?_); · rfl) | ((with_reducible refine AW.cond_false ?_ ?_); · rfl) | simp (maxSteps := 3000000) (maxDischargeDepth := 12) only [seval,push_cast,appendX,Try.results5,dcr,dcq,dcs,dcr2,dclo,dcq2,dcmn,dch0,dchi,xt1.2,xt1.ltT,xt1.leT])
  refine AOpsL.call (first := []) (cap := []) hT rfl rfl rfl fn9 rfl (ACalls.mono (pnew_ok _ lo hi) ?_)
  rintro y σ2 (⟨hr, rfl, rfl⟩ | ⟨hr, p, t, rfl, hp, hpn, htn, hx2⟩)
  · exact absurd (show right lo hi by unfold right; omega) hr
  clear dcr2 dclo dcq2 dcmn dch0 dchi dcr dcq xt1 hx2
  have dcs2 : IntKind.i64.wrap s = s := wrap_i64 (by omega) (by omega)
  have dcd : IntKind.i64.wrap (s + 1) = d := by rw [wrap_i64 (by omega) (by omega)]; omega
  have dcd0 : (d = 0) = False := by simp; omega
  repeat (first | (with_reducible first | refine AW.seq ?_ | refine AW.block ?_ | refine AW.skip ?_ | refine AW.ret ?_ | refine AW.exit ?_ | refine AW.reg hT ?_) | ((with_reducible refine AW.cond_true ?_ ?_); · rfl) | ((with_reducible refine AW.cond_false ?_ ?_); · rfl) | simp (maxSteps := 3000000) (maxDischargeDepth := 12) only [seval,push_cast,appendX,Try.results5,dcs,dcs2,dcd,dcd0])
  refine AW.loop (alI p t mN lo hi kp) (m := mN + 1) ⟨0, [], rfl, Nat.zero_le _, by simpa using hp, by simpa using Gd.nil hr, Nat.le_refl _, by (simp only [push_cast, TellsL, tells_any, tells_refl])⟩ ?_
  clear hp hpn htn
  rintro m ts σ3 ⟨i, E, rfl, hil, hp, hg, hEi, hts⟩
  refine AW.told hts ?_
  clear hts
  by_cases hi_ : i < mN
  · have dci : decide ((i : Int) < (mN : Int)) = true := decide_eq_true (by omega)
    obtain ⟨nx, hnx⟩ : ∃ nx, nx = lo + (i : Int) := ⟨_, rfl⟩
    rw [← hnx] at hp hg
    have dcw : IntKind.i64.wrap ((i : Int) + 1) = (i : Int) + 1 := wrap_i64 (by omega) (by omega)
    have dcnx : IntKind.i64.wrap (lo + (i : Int)) = nx := by rw [wrap_i64 (by omega) (by omega)]; omega
    obtain ⟨m1, hm1⟩ : ∃ m1, m1 = (mN : Int) - 1 := ⟨_, rfl⟩
    obtain ⟨v, hv⟩ : ∃ v, v = hi - (nx + 1) + 1 := ⟨_, rfl⟩
    have dcm1 : IntKind.i64.wrap ((mN : Int) - 1) = m1 := by rw [wrap_i64 (by omega) (by omega)]; omega
    have dcv : IntKind.i64.wrap (m1 - (i : Int)) = v := by rw [wrap_i64 (by omega) (by omega)]; omega
    obtain ⟨w, dcw2⟩ : ∃ w, (i : Int).tmod d = w := ⟨_, rfl⟩
    have hnx1 : lo + ((i + 1 : Nat) : Int) = nx + 1 := by omega
    repeat (first | (with_reducible first | refine AW.seq ?_ | refine AW.block ?_ | refine AW.skip ?_ | refine AW.ret ?_ | refine AW.exit ?_ | refine AW.reg hT ?_) | ((with_reducible refine AW.cond_true ?_ ?_); · rfl) | ((with_reducible refine AW.cond_false ?_ ?_); · rfl) | simp (maxSteps := 3000000) (maxDischargeDepth := 12) only [seval,push_cast,appendX,Try.results5,dcs,dcs2,dcd,dcd0,dci,dcw,dcnx,dcm1,dcv,dcw2])
    refine AOpsL.call (first := []) (cap := []) hT rfl rfl rfl fn13 rfl (ACalls.mono (take_any _ hp hg) ?_)
    rintro y σ4 (⟨hle, rfl, ⟨st, hp4, hg4⟩, hx4⟩ | ⟨hno, rfl, rfl⟩)
    · repeat (first | (with_reducible first | refine AW.seq ?_ | refine AW.block ?_ | refine AW.skip ?_ | refine AW.ret ?_ | refine AW.exit ?_ | refine AW.reg hT ?_) | ((with_reducible refine AW.cond_true ?_ ?_); · rfl) | ((with_reducible refine AW.cond_false ?_ ?_); · rfl) | simp (maxSteps := 3000000) (maxDischargeDepth := 12) only [seval,push_cast,appendX,Try.results5,dcs,dcs2,dcd,dcd0,dci,dcw,dcnx,dcm1,dcv,dcw2])
      refine AOpsL.call (first := []) (cap := []) hT rfl rfl rfl fn18 rfl (ACalls.mono (left_ok _ hp4 (by omega) (by omega) (by omega) (by omega)) ?_)
      rintro y σ5 ⟨rfl, rfl⟩
      rw [← hv]
      by_cases hw0 : w = 0
      · have dcw0 : (w == 0) = true := by simp [hw0]
        repeat (first | (with_reducible first | refine AW.seq ?_ | refine AW.block ?_ | refine AW.skip ?_ | refine AW.ret ?_ | refine AW.exit ?_ | refine AW.reg hT ?_) | ((with_reducible refine AW.cond_true ?_ ?_); · rfl) | ((with_reducible refine AW.cond_false ?_ ?_); · rfl) | simp (maxSteps := 3000000) (maxDischargeDepth := 12) only [seval,push_cast,appendX,Try.results5,dcs,dcs2,dcd,dcd0,dci,dcw,dcnx,dcm1,dcv,dcw2,dcw0])
        refine AOpsL.call (first := []) (cap := []) hT rfl rfl rfl fn12 rfl (ACalls.mono (drop_any _ hp4 hg4 (wf_small (by omega) (by omega))) ?_)
        rintro y σ6 (⟨j, s6, hj, rfl, hp6, hg6, hx6⟩ | ⟨hno, rfl, rfl⟩)
        · have hjl := (List.getElem?_eq_some_iff.1 hj).1
          repeat (first | (with_reducible first | refine AW.seq ?_ | refine AW.block ?_ | refine AW.skip ?_ | refine AW.ret ?_ | refine AW.exit ?_ | refine AW.reg hT ?_) | ((with_reducible refine AW.cond_true ?_ ?_); · rfl) | ((with_reducible refine AW.cond_false ?_ ?_); · rfl) | simp (maxSteps := 3000000) (maxDischargeDepth := 12) only [seval,push_cast,appendX,Try.results5,dcs,dcs2,dcd,dcd0,dci,dcw,dcnx,dcm1,dcv,dcw2,dcw0])
          refine ⟨mN + 1 - (i + 1), by omega, i + 1, _, rfl, by omega, by rw [hnx1]; exact hp6, by rw [hnx1]; exact hg6, ?_, by (simp only [push_cast, TellsL, tells_any, tells_refl])⟩
          rw [List.length_eraseIdx, if_pos hjl]
          simp
          omega
        · exact absurd rfl (hno (nx, st) (by simp))
      · have dcw0 : (w == 0) = false := by simp [hw0]
        repeat (first | (with_reducible first | refine AW.seq ?_ | refine AW.block ?_ | refine AW.skip ?_ | refine AW.ret ?_ | refine AW.exit ?_ | refine AW.reg hT ?_) | ((with_reducible refine AW.cond_true ?_ ?_); · rfl) | ((with_reducible refine AW.cond_false ?_ ?_); · rfl) | simp (maxSteps := 3000000) (maxDischargeDepth := 12) only [seval,push_cast,appendX,Try.results5,dcs,dcs2,dcd,dcd0,dci,dcw,dcnx,dcm1,dcv,dcw2,dcw0])
        exact ⟨mN + 1 - (i + 1), by omega, i + 1, _, rfl, by omega, by rw [hnx1]; exact hp4, by rw [hnx1]; exact hg4, by simp; omega, by (simp only [push_cast, TellsL, tells_any, tells_refl])⟩
    · omega
  have dci : decide ((i : Int) < (mN : Int)) = false := decide_eq_false (by omega)
  have hie : i = mN := by omega
  subst hie
  obtain ⟨nx, hnx⟩ : ∃ nx, nx = lo + (i : Int) := ⟨_, rfl⟩
  rw [← hnx] at hp hg
  repeat (first | (with_reducible first | refine AW.seq ?_ | refine AW.block ?_ | refine AW.skip ?_ | refine AW.ret ?_ | refine AW.exit ?_ | refine AW.reg hT ?_) | ((with_reducible refine AW.cond_true ?_ ?_); · rfl) | ((with_reducible refine AW.cond_false ?_ ?_); · rfl) | simp (maxSteps := 3000000) (maxDischargeDepth := 12) only [seval,push_cast,appendX,Try.results5,dcs,dcs2,dcd,dcd0,dci])
  refine AOpsL.call (first := []) (cap := []) hT rfl rfl rfl fn16 rfl (ACalls.mono (out_ok _ hp (by omega)) ?_)
  rintro y σ4 ⟨rfl, hp4, hx4⟩
  have hSp := srt_perm (E.map Prod.fst)
  have hSr := srt_rise hg.nd
  have hSl := hSp.length_eq
  rw [List.length_map] at hSl
  generalize srt (E.map Prod.fst) = S at hSp hSr hSl ⊢
  have dcmS : (S.map eZ').length = S.length := by simp
  repeat (first | (with_reducible first | refine AW.seq ?_ | refine AW.block ?_ | refine AW.skip ?_ | refine AW.ret ?_ | refine AW.exit ?_ | refine AW.reg hT ?_) | ((with_reducible refine AW.cond_true ?_ ?_); · rfl) | ((with_reducible refine AW.cond_false ?_ ?_); · rfl) | simp (maxSteps := 3000000) (maxDischargeDepth := 12) only [seval,push_cast,appendX,Try.results5,dcs,dcs2,dcd,dcd0,dci,dcmS])
  refine AW.loop (alJ p t S lo hi nx) (m := S.length + 1) ⟨0, E, rfl, Nat.zero_le _, hp4, hg, hSp.symm, by (simp only [push_cast, TellsL, tells_any, tells_refl])⟩ ?_
  have hSlen : S.length ≤ 1000 := by omega
  clear hx4 hp4 hSp hg hp hEi hSl
  clear E
  rintro m ts σ5 ⟨k, E, rfl, hkl, hp, hg, hE, hts⟩
  refine AW.told hts ?_
  clear hts
  by_cases hk_ : k < S.length
  · have dck : decide ((k : Int) < (S.length : Int)) = true := decide_eq_true (by omega)
    have dck2 : ((k : Int) < (S.length : Int)) = True := by simp; omega
    have dck0 : ((0 : Int) ≤ (k : Int)) = True := by simp
    have dcwk : IntKind.i64.wrap ((k : Int) + 1) = (k : Int) + 1 := wrap_i64 (by omega) (by omega)
    obtain ⟨e, he⟩ : ∃ e, S[k]? = some e := ⟨_, List.getElem?_eq_getElem hk_⟩
    have dcee : (S.map eZ')[k]? = some [.sc (.int .i64 e)] := by rw [List.getElem?_map, he]; rfl
    have hdk : S.drop k = e :: S.drop (k + 1) := by
      rw [List.drop_eq_getElem_cons hk_]
      rw [List.getElem?_eq_getElem hk_] at he
      rw [Option.some.inj he]
    rw [hdk] at hE
    have hem : e ∈ E.map Prod.fst := hE.mem_iff.2 (by simp)
    obtain ⟨e0, he0, hee⟩ := List.mem_map.1 hem
    have heb := hg.el e0 he0
    rw [hee] at heb
    have hrt := hg.rt
    have hg3 := hg.hi_
    unfold right at hrt
    have hew : (Lit.int .i64 e).wf = true := wf_small (by omega) (by omega)
    repeat (first | (with_reducible first | refine AW.seq ?_ | refine AW.block ?_ | refine AW.skip ?_ | refine AW.ret ?_ | refine AW.exit ?_ | refine AW.reg hT ?_) | ((with_reducible refine AW.cond_true ?_ ?_); · rfl) | ((with_reducible refine AW.cond_false ?_ ?_); · rfl) | simp (maxSteps := 3000000) (maxDischargeDepth := 12) only [seval,push_cast,appendX,Try.results5,dcs,dcs2,dcd,dcd0,dci,dcmS,dck,dck2,dck0,dcwk,dcee])
    refine AOpsL.call (first := []) (cap := []) hT rfl rfl rfl fn12 rfl (ACalls.mono (drop_any _ hp hg hew) ?_)
    rintro y σ6 (⟨j, s6, hj, rfl, hp6, hg6, hx6⟩ | ⟨hno, rfl, rfl⟩)
    · have hE6 : ((E.eraseIdx j).map Prod.fst).Perm (S.drop (k + 1)) := by
        rw [fst_erase]
        exact erase_perm hE (by rw [List.getElem?_map, hj]; rfl)
      have hno6 : ∀ x ∈ E.eraseIdx j, x.1 ≠ e := fun x hx hxe => by
        have h1 : e ∈ S.drop (k + 1) := hE6.mem_iff.1 (List.mem_map.2 ⟨x, hx, hxe⟩)
        have h2 : (S.drop k).Pairwise (· < ·) := hSr.sublist (List.drop_sublist _ _)
        rw [hdk, List.pairwise_cons] at h2
        have := h2.1 e h1
        omega
      repeat (first | (with_reducible first | refine AW.seq ?_ | refine AW.block ?_ | refine AW.skip ?_ | refine AW.ret ?_ | refine AW.exit ?_ | refine AW.reg hT ?_) | ((with_reducible refine AW.cond_true ?_ ?_); · rfl) | ((with_reducible refine AW.cond_false ?_ ?_); · rfl) | simp (maxSteps := 3000000) (maxDischargeDepth := 12) only [seval,push_cast,appendX,Try.results5,dcs,dcs2,dcd,dcd0,dci,dcmS,dck,dck2,dck0,dcwk,dcee])
      refine AOpsL.call (first := []) (cap := []) hT rfl rfl rfl fn12 rfl (ACalls.mono (drop_no _ hp6 hew hno6) ?_)
      rintro y σ7 ⟨rfl, rfl⟩
      repeat (first | (with_reducible first | refine AW.seq ?_ | refine AW.block ?_ | refine AW.skip ?_ | refine AW.ret ?_ | refine AW.exit ?_ | refine AW.reg hT ?_) | ((with_reducible refine AW.cond_true ?_ ?_); · rfl) | ((with_reducible refine AW.cond_false ?_ ?_); · rfl) | simp (maxSteps := 3000000) (maxDischargeDepth := 12) only [seval,push_cast,appendX,Try.results5,dcs,dcs2,dcd,dcd0,dci,dcmS,dck,dck2,dck0,dcwk,dcee])
      exact ⟨S.length + 1 - (k + 1), by omega, k + 1, _, rfl, by omega, hp6, hg6, hE6, by (simp only [push_cast, TellsL, tells_any, tells_refl])⟩
    · exact absurd hee (hno e0 he0)
  · have dck : decide ((k : Int) < (S.length : Int)) = false := decide_eq_false (by omega)
    rw [List.drop_eq_nil_of_le (by omega)] at hE
    have hE0 : E = [] := by
      have := hE.length_eq
      rw [List.length_map] at this
      exact List.eq_nil_of_length_eq_zero this
    subst hE0
    repeat (first | (with_reducible first | refine AW.seq ?_ | refine AW.block ?_ | refine AW.skip ?_ | refine AW.ret ?_ | refine AW.exit ?_ | refine AW.reg hT ?_) | ((with_reducible refine AW.cond_true ?_ ?_); · rfl) | ((with_reducible refine AW.cond_false ?_ ?_); · rfl) | simp (maxSteps := 3000000) (maxDischargeDepth := 12) only [seval,push_cast,appendX,Try.results5,dcs,dcs2,dcd,dcd0,dci,dcmS,dck])
    refine AOpsL.call (first := []) (cap := []) hT rfl rfl rfl fn13 rfl (ACalls.mono (take_no _ hp (by omega)) ?_)
    rintro y σ6 ⟨rfl, rfl⟩
    repeat (first | (with_reducible first | refine AW.seq ?_ | refine AW.block ?_ | refine AW.skip ?_ | refine AW.ret ?_ | refine AW.exit ?_ | refine AW.reg hT ?_) | ((with_reducible refine AW.cond_true ?_ ?_); · rfl) | ((with_reducible refine AW.cond_false ?_ ?_); · rfl) | simp (maxSteps := 3000000) (maxDischargeDepth := 12) only [seval,push_cast,appendX,Try.results5,dcs,dcs2,dcd,dcd0,dci,dcmS,dck])
    refine AOpsL.call (first := []) (cap := []) hT rfl rfl rfl fn16 rfl (ACalls.mono (out_ok _ hp (by simp)) ?_)
    rintro y σ7 ⟨rfl, hp7, hx7⟩
    have dcsn : srt ((([] : List (Int × DV))).map Prod.fst) = [] := by simp [srt]
    rw [dcsn]
    have hl0 : hi - nx + 1 = 0 := by omega
    repeat (first | (with_reducible first | refine AW.seq ?_ | refine AW.block ?_ | refine AW.skip ?_ | refine AW.ret ?_ | refine AW.exit ?_ | refine AW.reg hT ?_) | ((with_reducible refine AW.cond_true ?_ ?_); · rfl) | ((with_reducible refine AW.cond_false ?_ ?_); · rfl) | simp (maxSteps := 3000000) (maxDischargeDepth := 12) only [seval,push_cast,appendX,Try.results5,dcs,dcs2,dcd,dcd0,dci,dcmS,dck,dcsn])
    refine AOpsL.call (first := []) (cap := []) hT rfl rfl rfl fn18 rfl (ACalls.mono (left_ok _ hp7 (by omega) (by omega) (by omega) (by omega)) ?_)
    rintro y σ8 ⟨rfl, rfl⟩
    rw [hl0]
    repeat (first | (with_reducible first | refine AW.seq ?_ | refine AW.block ?_ | refine AW.skip ?_ | refine AW.ret ?_ | refine AW.exit ?_ | refine AW.reg hT ?_) | ((with_reducible refine AW.cond_true ?_ ?_); · rfl) | ((with_reducible refine AW.cond_false ?_ ?_); · rfl) | simp (maxSteps := 3000000) (maxDischargeDepth := 12) only [seval,push_cast,appendX,Try.results5,dcs,dcs2,dcd,dcd0,dci,dcmS,dck,dcsn])
end Go.Proofs.Ythdamnemoaaigaa.Cm
