/- PoolCounts. -/
import Derived.Test.YthdamnemoaaigaaPool4
import Derived.Test.YthdamnemoaaigaaCmFast
namespace Go.Proofs.Ythdamnemoaaigaa.Cm
attribute [-push_cast] List.getElem?_cons_succ List.set_cons_succ
open Go.RowKit
set_option linter.unusedVariables false
set_option linter.unusedSimpArgs false
set_option maxRecDepth 20000
set_option maxHeartbeats 8000000
theorem srt_rise {l : List Int} (h : l.Nodup) : (srt l).Pairwise (· < ·) := by
  have h1 : (srt l).Nodup := (srt_perm l).nodup_iff.2 h
  exact ((srt_sorted l).and h1).imp (fun h => by omega)
def coI (acts : List Ac) (p t : Nat) (lo hi : Int) (m : Nat) (ts : List DV) (σ : Heap) : Prop := ∃ (i : Nat) (nx bk : Int) (E : List (Int × DV)), m = acts.length + 1 - i ∧ i ≤ acts.length ∧ i ≤ 100 ∧ Pl σ p t nx hi E ∧ Gd lo hi nx E ∧ bk = nx - lo - E.length ∧ 0 ≤ bk ∧ E.length ≤ i ∧ TellsL ts (.sc (.int .i64 lo) :: .sc (.int .i64 hi) :: .imm (acts.map eAc) :: .any :: .any :: .any :: .any :: .ptr p 0 0 1 :: .sc (.int .i64 bk) :: .sc (.int .i64 i) :: .any :: .any :: .any :: .any :: .any :: .any :: .any :: .any :: .any :: .any :: .any :: .any :: .any :: .any :: .any :: .any :: .any :: .any :: .any :: .any :: .any :: .any :: .any :: .any :: .any :: .any :: .any :: .any :: .any :: .any :: .any :: .any :: .any :: .any :: .any :: .any :: .any :: .any :: .any :: .any :: .any :: .any :: .any :: .any :: .any :: .any :: .any :: .any :: .any :: .any :: .any :: .any :: .any :: .any :: .any :: .any :: .any :: .any :: .any :: .any :: .any :: .any :: .any :: .any :: .any :: .any :: .any :: .any :: .any :: .any :: .any :: .any :: .any :: .any :: .any :: .any :: .any :: .any :: .any :: .any :: .any :: .any :: .any :: .any :: .any :: .any :: .any :: .any :: .any :: .any :: .any :: [])
def coJ (acts : List Ac) (S : List Int) (p : Nat) (i : Nat) (lo hi bk : Int) (σ0 : Heap) (m : Nat) (ts : List DV) (σ : Heap) : Prop := ∃ k : Nat, m = S.length + 1 - k ∧ k ≤ S.length ∧ σ = σ0 ∧ TellsL ts (.sc (.int .i64 lo) :: .sc (.int .i64 hi) :: .imm (acts.map eAc) :: .any :: .any :: .any :: .any :: .ptr p 0 0 1 :: .sc (.int .i64 bk) :: .sc (.int .i64 i) :: .imm (S.map eZ') :: .any :: .any :: .any :: .any :: .any :: .any :: .any :: .any :: .any :: .any :: .any :: .any :: .any :: .any :: .any :: .any :: .any :: .any :: .any :: .any :: .any :: .any :: .any :: .any :: .any :: .any :: .any :: .any :: .any :: .any :: .any :: .any :: .any :: .any :: .any :: .any :: .any :: .any :: .any :: .any :: .any :: .any :: .any :: .any :: .any :: .any :: .any :: .any :: .any :: .any :: .any :: .any :: .any :: .any :: .any :: .sc (.int .i64 S.length) :: .sc (.int .i64 k) :: .any :: .any :: .any :: .any :: .any :: .any :: .any :: .any :: .any :: .any :: .any :: .any :: .any :: .any :: .any :: .any :: .any :: .any :: .any :: .any :: .any :: .any :: .any :: .any :: .any :: .any :: .any :: .any :: .any :: .any :: .any :: .any :: .any :: [])
theorem counts_ok (lo hi : Int) (acts : List Ac) (hlo : (Lit.int .i64 lo).wf = true) (hhi : (Lit.int .i64 hi).wf = true) (h : acts.length ≤ maxLen ∧ ∀ y ∈ acts, wAc y) : ACalls Try.prog 6 [.sc (.int .i64 lo), .sc (.int .i64 hi), .imm (acts.map eAc)] ⟨[]⟩ (fun x _ => x = .sc (.bool true)) := by
  obtain ⟨_, hw⟩ := h
  generalize (⟨[]⟩ : Heap) = σ
  have dcml : (acts.map eAc).length = acts.length := by simp
  refine ACalls.code hT Try.func6 rfl ?_
  simp only [Try.ntmps6, List.length_cons, List.length_nil, Nat.reduceSub, Nat.reduceAdd, List.replicate, List.cons_append, List.nil_append]
  repeat (first | (with_reducible first | refine AW.seq ?_ | refine AW.block ?_ | refine AW.skip ?_ | refine AW.ret ?_ | refine AW.exit ?_ | refine AW.reg hT ?_) | ((with_reducible refine AW.cond_true ?_ ?_); · rfl) | ((with_reducible refine AW.cond_false ?_ ?_); · rfl) | simp (maxSteps := 3000000) (maxDischargeDepth := 12) only [seval,push_cast,appendX,get32,get8,get_0,get_1,get_2,get_3,get_4,get_5,get_6,get_7,set32,set8,set_0,set_1,set_2,set_3,set_4,set_5,set_6,set_7,Try.results6,dcml])
  refine AOpsL.call (first := []) (cap := []) hT rfl rfl rfl fn8 rfl (ACalls.mono (alive_ok _) ?_)
  rintro y σ1 ⟨rfl, xt1⟩
  repeat (first | (with_reducible first | refine AW.seq ?_ | refine AW.block ?_ | refine AW.skip ?_ | refine AW.ret ?_ | refine AW.exit ?_ | refine AW.reg hT ?_) | ((with_reducible refine AW.cond_true ?_ ?_); · rfl) | ((with_reducible refine AW.cond_false ?_ ?_); · rfl) | simp (maxSteps := 3000000) (maxDischargeDepth := 12) only [seval,push_cast,appendX,get32,get8,get_0,get_1,get_2,get_3,get_4,get_5,get_6,get_7,set32,set8,set_0,set_1,set_2,set_3,set_4,set_5,set_6,set_7,Try.results6,dcml,xt1.2,xt1.ltT,xt1.leT])
  refine AOpsL.call (first := []) (cap := []) hT rfl rfl rfl fn9 rfl (ACalls.mono (pnew_ok _ lo hi) ?_)
  rintro y σ2 (⟨hr, rfl, rfl⟩ | ⟨hr, p, t, rfl, hp, hpn, htn, hx2⟩)
  · have dcr : decide (right lo hi) = false := decide_eq_false hr
    repeat (first | (with_reducible first | refine AW.seq ?_ | refine AW.block ?_ | refine AW.skip ?_ | refine AW.ret ?_ | refine AW.exit ?_ | refine AW.reg hT ?_) | ((with_reducible refine AW.cond_true ?_ ?_); · rfl) | ((with_reducible refine AW.cond_false ?_ ?_); · rfl) | simp (maxSteps := 3000000) (maxDischargeDepth := 12) only [seval,push_cast,appendX,get32,get8,get_0,get_1,get_2,get_3,get_4,get_5,get_6,get_7,set32,set8,set_0,set_1,set_2,set_3,set_4,set_5,set_6,set_7,Try.results6,dcml,xt1.2,xt1.ltT,xt1.leT,dcr])
    refine AOpsL.call (first := []) (cap := []) hT rfl rfl rfl fn10 rfl (ACalls.mono (right_ok _ lo hi) ?_)
    rintro y σ3 ⟨rfl, rfl⟩
    repeat (first | (with_reducible first | refine AW.seq ?_ | refine AW.block ?_ | refine AW.skip ?_ | refine AW.ret ?_ | refine AW.exit ?_ | refine AW.reg hT ?_) | ((with_reducible refine AW.cond_true ?_ ?_); · rfl) | ((with_reducible refine AW.cond_false ?_ ?_); · rfl) | simp (maxSteps := 3000000) (maxDischargeDepth := 12) only [seval,push_cast,appendX,get32,get8,get_0,get_1,get_2,get_3,get_4,get_5,get_6,get_7,set32,set8,set_0,set_1,set_2,set_3,set_4,set_5,set_6,set_7,Try.results6,dcml,xt1.2,xt1.ltT,xt1.leT,dcr])
  have hrr := hr
  unfold right at hrr
  repeat (first | (with_reducible first | refine AW.seq ?_ | refine AW.block ?_ | refine AW.skip ?_ | refine AW.ret ?_ | refine AW.exit ?_ | refine AW.reg hT ?_) | ((with_reducible refine AW.cond_true ?_ ?_); · rfl) | ((with_reducible refine AW.cond_false ?_ ?_); · rfl) | simp (maxSteps := 3000000) (maxDischargeDepth := 12) only [seval,push_cast,appendX,get32,get8,get_0,get_1,get_2,get_3,get_4,get_5,get_6,get_7,set32,set8,set_0,set_1,set_2,set_3,set_4,set_5,set_6,set_7,Try.results6,dcml,xt1.2,xt1.ltT,xt1.leT])
  refine AW.loop (coI acts p t lo hi) (m := acts.length + 1) ⟨0, lo, 0, [], rfl, Nat.zero_le _, Nat.zero_le _, hp, Gd.nil hr, by simp, Int.le_refl _, Nat.le_refl _, by (simp only [push_cast, TellsL, tells_any, tells_refl])⟩ ?_
  clear xt1 hx2 hp hpn htn
  rintro m ts σ3 ⟨i, nx, bk, E, rfl, hil, hi100, hp, hg, hbk, hbk0, hEi, hts⟩
  refine AW.told hts ?_
  clear hts
  by_cases hi_ : i < acts.length
  · have dci : decide ((i : Int) < (acts.length : Int)) = true := decide_eq_true (by omega)
    by_cases hj : i < 100
    · have dcj : decide ((i : Int) < 100) = true := decide_eq_true (by omega)
      have dci2 : ((i : Int) < (acts.length : Int)) = True := by simp; omega
      have dci0 : ((0 : Int) ≤ (i : Int)) = True := by simp
      obtain ⟨x, hx⟩ : ∃ x, acts[i]? = some x := ⟨_, List.getElem?_eq_getElem hi_⟩
      have hxw : wAc x := hw x (List.mem_of_getElem? hx)
      have dcel : (acts.map eAc)[i]? = some (eAc x) := by rw [List.getElem?_map, hx]; rfl
      rw [eAc_eq] at dcel
      have dcw : IntKind.i64.wrap ((i : Int) + 1) = (i : Int) + 1 := wrap_i64 (by omega) (by omega)
      repeat ((fail_if_success (with_reducible refine AW.at1 (id := 10) ?_)); (fail_if_success (with_reducible refine AW.at2 (id := 10) ?_)); first | (with_reducible first | refine AW.seq ?_ | refine AW.block ?_ | refine AW.skip ?_ | refine AW.ret ?_ | refine AW.exit ?_ | refine AW.reg hT ?_) | ((with_reducible refine AW.cond_true ?_ ?_); · rfl) | ((with_reducible refine AW.cond_false ?_ ?_); · rfl) | simp (maxSteps := 3000000) (maxDischargeDepth := 12) only [seval,push_cast,appendX,get32,get8,get_0,get_1,get_2,get_3,get_4,get_5,get_6,get_7,set32,set8,set_0,set_1,set_2,set_3,set_4,set_5,set_6,set_7,Try.results6,dcml,dci,dcj,dci2,dci0,dcel,dcw])
      refine AW.seqK (fun ts σ => ∃ (nx bk : Int) (E : List (Int × DV)), Pl σ p t nx hi E ∧ Gd lo hi nx E ∧ bk = nx - lo - E.length ∧ 0 ≤ bk ∧ E.length ≤ i + 1 ∧ TellsL ts (.sc (.int .i64 lo) :: .sc (.int .i64 hi) :: .imm (acts.map eAc) :: .any :: .any :: .any :: .any :: .ptr p 0 0 1 :: .sc (.int .i64 bk) :: .sc (.int .i64 i) :: .any :: .any :: .any :: .any :: .any :: .any :: .any :: .any :: .any :: .any :: .any :: .any :: .any :: .any :: .any :: .any :: .any :: .any :: .any :: .any :: .any :: .any :: .any :: .any :: .any :: .any :: .any :: .any :: .any :: .any :: .any :: .any :: .any :: .any :: .any :: .any :: .any :: .any :: .any :: .any :: .any :: .any :: .any :: .any :: .any :: .any :: .any :: .any :: .any :: .any :: .any :: .any :: .any :: .any :: .any :: .any :: .any :: .any :: .any :: .any :: .any :: .any :: .any :: .any :: .any :: .any :: .any :: .any :: .any :: .any :: .any :: .any :: .any :: .any :: .any :: .any :: .any :: .any :: .any :: .any :: .any :: .any :: .any :: .any :: .any :: .any :: .any :: .any :: .any :: .any :: .any :: [])) ?_ ?_
      · cases hb : x.f0 with
        | true =>
          have dcb := hb
          repeat (first | (with_reducible first | refine AW.seq ?_ | refine AW.block ?_ | refine AW.skip ?_ | refine AW.ret ?_ | refine AW.exit ?_ | refine AW.reg hT ?_) | ((with_reducible refine AW.cond_true ?_ ?_); · rfl) | ((with_reducible refine AW.cond_false ?_ ?_); · rfl) | simp (maxSteps := 3000000) (maxDischargeDepth := 12) only [seval,push_cast,appendX,get32,get8,get_0,get_1,get_2,get_3,get_4,get_5,get_6,get_7,set32,set8,set_0,set_1,set_2,set_3,set_4,set_5,set_6,set_7,Try.results6,dcml,dci,dcj,dci2,dci0,dcel,dcw,dcb])
          refine AOpsL.call (first := []) (cap := []) hT rfl rfl rfl fn12 rfl (ACalls.mono (drop_any _ hp hg hxw.2.2) ?_)
          rintro y σ4 (⟨j, s, hj, rfl, hp4, hg4, hx4⟩ | ⟨hno, rfl, rfl⟩)
          · have hjl := (List.getElem?_eq_some_iff.1 hj).1
            have hle : (E.eraseIdx j).length + 1 = E.length := by rw [List.length_eraseIdx, if_pos hjl]; omega
            have dcbk : IntKind.i64.wrap (bk + 1) = bk + 1 := by
              have := hg.hi_
              exact wrap_i64 (by omega) (by omega)
            repeat (first | (with_reducible first | refine AW.seq ?_ | refine AW.block ?_ | refine AW.skip ?_ | refine AW.ret ?_ | refine AW.exit ?_ | refine AW.reg hT ?_) | ((with_reducible refine AW.cond_true ?_ ?_); · rfl) | ((with_reducible refine AW.cond_false ?_ ?_); · rfl) | simp (maxSteps := 3000000) (maxDischargeDepth := 12) only [seval,push_cast,appendX,get32,get8,get_0,get_1,get_2,get_3,get_4,get_5,get_6,get_7,set32,set8,set_0,set_1,set_2,set_3,set_4,set_5,set_6,set_7,Try.results6,dcml,dci,dcj,dci2,dci0,dcel,dcw,dcb,dcbk])
            exact ⟨nx, bk + 1, _, hp4, hg4, by omega, by omega, by omega, by (simp only [push_cast, TellsL, tells_any, tells_refl])⟩
          · repeat (first | (with_reducible first | refine AW.seq ?_ | refine AW.block ?_ | refine AW.skip ?_ | refine AW.ret ?_ | refine AW.exit ?_ | refine AW.reg hT ?_) | ((with_reducible refine AW.cond_true ?_ ?_); · rfl) | ((with_reducible refine AW.cond_false ?_ ?_); · rfl) | simp (maxSteps := 3000000) (maxDischargeDepth := 12) only [seval,push_cast,appendX,get32,get8,get_0,get_1,get_2,get_3,get_4,get_5,get_6,get_7,set32,set8,set_0,set_1,set_2,set_3,set_4,set_5,set_6,set_7,Try.results6,dcml,dci,dcj,dci2,dci0,dcel,dcw,dcb])
            exact ⟨nx, bk, E, hp, hg, hbk, hbk0, by omega, by (simp only [push_cast, TellsL, tells_any, tells_refl])⟩
        | false =>
          have dcb := hb
          repeat (first | (with_reducible first | refine AW.seq ?_ | refine AW.block ?_ | refine AW.skip ?_ | refine AW.ret ?_ | refine AW.exit ?_ | refine AW.reg hT ?_) | ((with_reducible refine AW.cond_true ?_ ?_); · rfl) | ((with_reducible refine AW.cond_false ?_ ?_); · rfl) | simp (maxSteps := 3000000) (maxDischargeDepth := 12) only [seval,push_cast,appendX,get32,get8,get_0,get_1,get_2,get_3,get_4,get_5,get_6,get_7,set32,set8,set_0,set_1,set_2,set_3,set_4,set_5,set_6,set_7,Try.results6,dcml,dci,dcj,dci2,dci0,dcel,dcw,dcb])
          refine AOpsL.call (first := []) (cap := []) hT rfl rfl rfl fn13 rfl (ACalls.mono (take_any _ hp hg) ?_)
          rintro y σ4 (⟨hle, rfl, ⟨s, hp4, hg4⟩, hx4⟩ | ⟨hnx, rfl, rfl⟩)
          · repeat (first | (with_reducible first | refine AW.seq ?_ | refine AW.block ?_ | refine AW.skip ?_ | refine AW.ret ?_ | refine AW.exit ?_ | refine AW.reg hT ?_) | ((with_reducible refine AW.cond_true ?_ ?_); · rfl) | ((with_reducible refine AW.cond_false ?_ ?_); · rfl) | simp (maxSteps := 3000000) (maxDischargeDepth := 12) only [seval,push_cast,appendX,get32,get8,get_0,get_1,get_2,get_3,get_4,get_5,get_6,get_7,set32,set8,set_0,set_1,set_2,set_3,set_4,set_5,set_6,set_7,Try.results6,dcml,dci,dcj,dci2,dci0,dcel,dcw,dcb])
            exact ⟨nx + 1, bk, _, hp4, hg4, by simp; omega, hbk0, by simp; omega, by (simp only [push_cast, TellsL, tells_any, tells_refl])⟩
          · repeat (first | (with_reducible first | refine AW.seq ?_ | refine AW.block ?_ | refine AW.skip ?_ | refine AW.ret ?_ | refine AW.exit ?_ | refine AW.reg hT ?_) | ((with_reducible refine AW.cond_true ?_ ?_); · rfl) | ((with_reducible refine AW.cond_false ?_ ?_); · rfl) | simp (maxSteps := 3000000) (maxDischargeDepth := 12) only [seval,push_cast,appendX,get32,get8,get_0,get_1,get_2,get_3,get_4,get_5,get_6,get_7,set32,set8,set_0,set_1,set_2,set_3,set_4,set_5,set_6,set_7,Try.results6,dcml,dci,dcj,dci2,dci0,dcel,dcw,dcb])
            exact ⟨nx, bk, E, hp, hg, hbk, hbk0, by omega, by (simp only [push_cast, TellsL, tells_any, tells_refl])⟩
      clear hbk hbk0 hp hg hEi
      clear bk E nx
      rintro ts σ4 ⟨nx, bk, E, hp, hg, hbk, hbk0, hEi, hts⟩
      refine AW.told hts ?_
      clear hts
      have g2 := hg.lo_
      have g3 := hg.hi_
      have g4 := hg.len
      repeat (first | (with_reducible first | refine AW.seq ?_ | refine AW.block ?_ | refine AW.skip ?_ | refine AW.ret ?_ | refine AW.exit ?_ | refine AW.reg hT ?_) | ((with_reducible refine AW.cond_true ?_ ?_); · rfl) | ((with_reducible refine AW.cond_false ?_ ?_); · rfl) | simp (maxSteps := 3000000) (maxDischargeDepth := 12) only [seval,push_cast,appendX,get32,get8,get_0,get_1,get_2,get_3,get_4,get_5,get_6,get_7,set32,set8,set_0,set_1,set_2,set_3,set_4,set_5,set_6,set_7,Try.results6,dcml,dci,dcj,dci2,dci0,dcel,dcw])
      refine AOpsL.call (first := []) (cap := []) hT rfl rfl rfl fn16 rfl (ACalls.mono (out_ok _ hp (by omega)) ?_)
      rintro y σ5 ⟨rfl, hp5, hx5⟩
      have hSl : (srt (E.map Prod.fst)).length = E.length := by rw [(srt_perm _).length_eq, List.length_map]
      have hSm : ∀ k ∈ srt (E.map Prod.fst), lo ≤ k ∧ k < nx := fun k hk => by
        obtain ⟨e, he, rfl⟩ := List.mem_map.1 ((srt_perm _).mem_iff.1 hk)
        exact hg.el e he
      have hSr := srt_rise hg.nd
      generalize srt (E.map Prod.fst) = S at hSl hSm hSr ⊢
      have dcmS : (S.map eZ').length = S.length := by simp
      obtain ⟨u, hu⟩ : ∃ u, u = nx - lo := ⟨_, rfl⟩
      obtain ⟨v, hv⟩ : ∃ v, v = hi - nx + 1 := ⟨_, rfl⟩
      obtain ⟨z, hz⟩ : ∃ z, z = hi - lo + 1 := ⟨_, rfl⟩
      obtain ⟨a, ha⟩ : ∃ a, a = hi - lo := ⟨_, rfl⟩
      have dcw1 : IntKind.i64.wrap ((S.length : Int) + bk) = u := by rw [wrap_i64 (by omega) (by omega)]; omega
      have dcw2 : IntKind.i64.wrap (u + v) = z := by rw [wrap_i64 (by omega) (by omega)]; omega
      have dcw3 : IntKind.i64.wrap (hi - lo) = a := by rw [wrap_i64 (by omega) (by omega)]; omega
      have dcw4 : IntKind.i64.wrap (a + 1) = z := by rw [wrap_i64 (by omega) (by omega)]; omega
      repeat (first | (with_reducible first | refine AW.seq ?_ | refine AW.block ?_ | refine AW.skip ?_ | refine AW.ret ?_ | refine AW.exit ?_ | refine AW.reg hT ?_) | ((with_reducible refine AW.cond_true ?_ ?_); · rfl) | ((with_reducible refine AW.cond_false ?_ ?_); · rfl) | simp (maxSteps := 3000000) (maxDischargeDepth := 12) only [seval,push_cast,appendX,get32,get8,get_0,get_1,get_2,get_3,get_4,get_5,get_6,get_7,set32,set8,set_0,set_1,set_2,set_3,set_4,set_5,set_6,set_7,Try.results6,dcml,dci,dcj,dci2,dci0,dcel,dcw,dcmS,dcw1,dcw2,dcw3,dcw4])
      refine AOpsL.call (first := []) (cap := []) hT rfl rfl rfl fn18 rfl (ACalls.mono (left_ok _ hp5 (by omega) (by omega) (by omega) (by omega)) ?_)
      rintro y σ6 ⟨rfl, rfl⟩
      rw [← hv]
      repeat (first | (with_reducible first | refine AW.seq ?_ | refine AW.block ?_ | refine AW.skip ?_ | refine AW.ret ?_ | refine AW.exit ?_ | refine AW.reg hT ?_) | ((with_reducible refine AW.cond_true ?_ ?_); · rfl) | ((with_reducible refine AW.cond_false ?_ ?_); · rfl) | simp (maxSteps := 3000000) (maxDischargeDepth := 12) only [seval,push_cast,appendX,get32,get8,get_0,get_1,get_2,get_3,get_4,get_5,get_6,get_7,set32,set8,set_0,set_1,set_2,set_3,set_4,set_5,set_6,set_7,Try.results6,dcml,dci,dcj,dci2,dci0,dcel,dcw,dcmS,dcw1,dcw2,dcw3,dcw4])
      refine AW.loop (coJ acts S p i lo hi bk σ6) (m := S.length + 1) ⟨0, rfl, Nat.zero_le _, rfl, by (simp only [push_cast, TellsL, tells_any, tells_refl])⟩ ?_
      clear dcw1 dcw2 dcw3 dcw4 hu hv hz ha hx5 dcel hx
      clear u v z a
      rintro m ts σ7 ⟨k, rfl, hkl, rfl, hts⟩
      refine AW.told hts ?_
      clear hts
      by_cases hk : k < S.length
      · have dck : decide ((k : Int) < (S.length : Int)) = true := decide_eq_true (by omega)
        have dck2 : ((k : Int) < (S.length : Int)) = True := by simp; omega
        have dck0 : ((0 : Int) ≤ (k : Int)) = True := by simp
        have dcwk : IntKind.i64.wrap ((k : Int) + 1) = (k : Int) + 1 := wrap_i64 (by omega) (by omega)
        obtain ⟨e, he⟩ : ∃ e, S[k]? = some e := ⟨_, List.getElem?_eq_getElem hk⟩
        have hem := hSm e (List.mem_of_getElem? he)
        have dcee : (S.map eZ')[k]? = some [.sc (.int .i64 e)] := by rw [List.getElem?_map, he]; rfl
        have dce1 : decide (e < lo) = false := decide_eq_false (by omega)
        have dce2 : decide (hi < e) = false := decide_eq_false (by omega)
        by_cases hk0 : k = 0
        · have dcpos : decide ((0 : Int) < (k : Int)) = false := decide_eq_false (by omega)
          repeat (first | (with_reducible first | refine AW.seq ?_ | refine AW.block ?_ | refine AW.skip ?_ | refine AW.ret ?_ | refine AW.exit ?_ | refine AW.reg hT ?_) | ((with_reducible show AW _ (.region 20 _ _) _ _ _); (with_reducible refine AW.drawnF (id := 20) hT [0,1,2,3,4,5,6,7,8,9,10,11,12,13,14,15,16,17,18,19,20,21,22,23,24,25,26,27,28,29] [[],[],[0,1],[0,1,2],[],[0,1,2,3,4],[0,1,2,3,4,5],[0,1,2,3,4,5,6],[0,1,2,3,4,5,6],[0,1,2,3,4,5,6,7,8],[0,1,2,3,4,5,6,7,8,9],[0,1,2,3,4,5,6],[0,1,2,3,4,5,6,7,8,9,10,11],[0,1,2,3,4,5,6,7,8,9,10,11,12],[0,1,2,3,4,5,6,7,8,9,10,11,12,13],[0,1,2,3,4,5,6,7,8,9,10,11,12,13,14],[0,1,2,3,4,5,6,7,8,9,10,11,12,13,14,15],[0,1,2,3,4,5,6,7,8,9,10,11,12,13,14,15,16],[0,1,2,3,4,5,6,7,8,9,10,11,12,13,14,15,16,17],[0,1,2,3,4,5,6,7,8,9,10,11,12,13,14,15,16,17],[0,1,2,3,4,5,6,7,8,9,10,11,12,13,14,15,16,17,18,19],[0,1,2,3,4,5,6,7,8,9,10,11,12,13,14,15,16,17,18,19,20],[0,1,2,3,4,5,6,7,8,9,10,11,12,13,14,15,16,17],[0,1,2,3,4,5,6,7,8,9,10,11,12,13,14,15,16,17],[0,1,2,3,4,5,6,7,8,9,10,11,12,13,14,15,16,17,23],[0,1,2,3,4,5,6,7,8,9,10,11,12,13,14,15,16,17,22,23,24],[0,1,2,3,4,5,6,7,8,9,10,11,12,13,14,15,16,17,22,23,24,25],[0,1,2,3,4,5,6,7,8,9,10,11,12,13,14,15,16,17,18,19,20,21,22,23,24,25,26],[0,1,2,3,4,5,6,7,8,9,10,11,12,13,14,15,16,17,18,19,20,21,22,23,24,25,26,27],[0,1,2,3,4,5,6,7,8,9,10,11,12,13,14,15,16,17,18,19,20,21,22,23,24,25,26,27,28]] mix (by kernel_rfl) ?_)) | ((with_reducible show DF _ _ _ _ _ _ _ _ _); first | (with_reducible refine DF.nil ?_) | ((with_reducible apply DF.step); (case ho => ((simp only [List.getElem?_toArray,get32,get8,get_0,get_1,get_2,get_3,get_4,get_5,get_6,get_7]); with_reducible rfl)); (case hs => ((try simp (maxSteps := 3000000) (maxDischargeDepth := 12) only [seval,push_cast,appendX,get32,get8,get_0,get_1,get_2,get_3,get_4,get_5,get_6,get_7,set32,set8,set_0,set_1,set_2,set_3,set_4,set_5,set_6,set_7,Try.results6,dcml,dci,dcj,dci2,dci0,dcw,dcmS,dck,dck2,dck0,dcwk,dcee,dce1,dce2,dcpos]); with_reducible rfl)); (case hp => ((try simp only [putD,set32,set8,set_0,set_1,set_2,set_3,set_4,set_5,set_6,set_7]); with_reducible rfl))) | ((with_reducible apply DF.heap hT); (case hoi => ((simp only [List.getElem?_toArray,get32,get8,get_0,get_1,get_2,get_3,get_4,get_5,get_6,get_7]); with_reducible rfl)); (case hg => rfl); (case hk => rfl); (case hr => ((try simp (maxSteps := 3000000) (maxDischargeDepth := 12) only [seval,push_cast,appendX,get32,get8,get_0,get_1,get_2,get_3,get_4,get_5,get_6,get_7,set32,set8,set_0,set_1,set_2,set_3,set_4,set_5,set_6,set_7,Try.results6,dcml,dci,dcj,dci2,dci0,dcw,dcmS,dck,dck2,dck0,dcwk,dcee,dce1,dce2,dcpos]); with_reducible rfl)); (case hl => (simp (maxSteps := 3000000) (maxDischargeDepth := 12) only [seval,push_cast,appendX,get32,get8,get_0,get_1,get_2,get_3,get_4,get_5,get_6,get_7,set32,set8,set_0,set_1,set_2,set_3,set_4,set_5,set_6,set_7,Try.results6,dcml,dci,dcj,dci2,dci0,dcw,dcmS,dck,dck2,dck0,dcwk,dcee,dce1,dce2,dcpos]; done)); (case hp => ((try simp only [putD,set32,set8,set_0,set_1,set_2,set_3,set_4,set_5,set_6,set_7]); with_reducible rfl)))) | ((with_reducible refine AW.cond_true ?_ ?_); · rfl) | ((with_reducible refine AW.cond_false ?_ ?_); · rfl) | simp (maxSteps := 3000000) (maxDischargeDepth := 12) only [seval,push_cast,appendX,get32,get8,get_0,get_1,get_2,get_3,get_4,get_5,get_6,get_7,set32,set8,set_0,set_1,set_2,set_3,set_4,set_5,set_6,set_7,Try.results6,dcml,dci,dcj,dci2,dci0,dcw,dcmS,dck,dck2,dck0,dcwk,dcee,dce1,dce2,dcpos])
          exact ⟨S.length + 1 - (k + 1), by omega, k + 1, rfl, by omega, rfl, by (simp only [push_cast, TellsL, tells_any, tells_refl])⟩
        · obtain ⟨j, hkj⟩ : ∃ j, k = j + 1 := ⟨k - 1, by omega⟩
          have dcpos : decide ((0 : Int) < (k : Int)) = true := decide_eq_true (by omega)
          have dcwj : IntKind.i64.wrap ((k : Int) - 1) = (j : Int) := by rw [wrap_i64 (by omega) (by omega)]; omega
          have dcj2 : ((j : Int) < (S.length : Int)) = True := by simp; omega
          have dcj0 : ((0 : Int) ≤ (j : Int)) = True := by simp
          obtain ⟨f, hf⟩ : ∃ f, S[j]? = some f := ⟨_, List.getElem?_eq_getElem (by omega)⟩
          have dcff : (S.map eZ')[j]? = some [.sc (.int .i64 f)] := by rw [List.getElem?_map, hf]; rfl
          have hlt : f < e := by
            have := List.pairwise_iff_getElem.1 hSr j k (by omega) hk (by omega)
            rw [List.getElem?_eq_getElem hk] at he
            rw [List.getElem?_eq_getElem (by omega)] at hf
            rw [← Option.some.inj he, ← Option.some.inj hf]; exact this
          have dcle : decide (e ≤ f) = false := decide_eq_false (by omega)
          repeat (first | (with_reducible first | refine AW.seq ?_ | refine AW.block ?_ | refine AW.skip ?_ | refine AW.ret ?_ | refine AW.exit ?_ | refine AW.reg hT ?_) | ((with_reducible show AW _ (.region 20 _ _) _ _ _); (with_reducible refine AW.drawnF (id := 20) hT [0,1,2,3,4,5,6,7,8,9,10,11,12,13,14,15,16,17,18,19,20,21,22,23,24,25,26,27,28,29] [[],[],[0,1],[0,1,2],[],[0,1,2,3,4],[0,1,2,3,4,5],[0,1,2,3,4,5,6],[0,1,2,3,4,5,6],[0,1,2,3,4,5,6,7,8],[0,1,2,3,4,5,6,7,8,9],[0,1,2,3,4,5,6],[0,1,2,3,4,5,6,7,8,9,10,11],[0,1,2,3,4,5,6,7,8,9,10,11,12],[0,1,2,3,4,5,6,7,8,9,10,11,12,13],[0,1,2,3,4,5,6,7,8,9,10,11,12,13,14],[0,1,2,3,4,5,6,7,8,9,10,11,12,13,14,15],[0,1,2,3,4,5,6,7,8,9,10,11,12,13,14,15,16],[0,1,2,3,4,5,6,7,8,9,10,11,12,13,14,15,16,17],[0,1,2,3,4,5,6,7,8,9,10,11,12,13,14,15,16,17],[0,1,2,3,4,5,6,7,8,9,10,11,12,13,14,15,16,17,18,19],[0,1,2,3,4,5,6,7,8,9,10,11,12,13,14,15,16,17,18,19,20],[0,1,2,3,4,5,6,7,8,9,10,11,12,13,14,15,16,17],[0,1,2,3,4,5,6,7,8,9,10,11,12,13,14,15,16,17],[0,1,2,3,4,5,6,7,8,9,10,11,12,13,14,15,16,17,23],[0,1,2,3,4,5,6,7,8,9,10,11,12,13,14,15,16,17,22,23,24],[0,1,2,3,4,5,6,7,8,9,10,11,12,13,14,15,16,17,22,23,24,25],[0,1,2,3,4,5,6,7,8,9,10,11,12,13,14,15,16,17,18,19,20,21,22,23,24,25,26],[0,1,2,3,4,5,6,7,8,9,10,11,12,13,14,15,16,17,18,19,20,21,22,23,24,25,26,27],[0,1,2,3,4,5,6,7,8,9,10,11,12,13,14,15,16,17,18,19,20,21,22,23,24,25,26,27,28]] mix (by kernel_rfl) ?_)) | ((with_reducible show DF _ _ _ _ _ _ _ _ _); first | (with_reducible refine DF.nil ?_) | ((with_reducible apply DF.step); (case ho => ((simp only [List.getElem?_toArray,get32,get8,get_0,get_1,get_2,get_3,get_4,get_5,get_6,get_7]); with_reducible rfl)); (case hs => ((try simp (maxSteps := 3000000) (maxDischargeDepth := 12) only [seval,push_cast,appendX,get32,get8,get_0,get_1,get_2,get_3,get_4,get_5,get_6,get_7,set32,set8,set_0,set_1,set_2,set_3,set_4,set_5,set_6,set_7,Try.results6,dcml,dci,dcj,dci2,dci0,dcw,dcmS,dck,dck2,dck0,dcwk,dcee,dce1,dce2,dcpos,dcwj,dcj2,dcj0,dcff,dcle]); with_reducible rfl)); (case hp => ((try simp only [putD,set32,set8,set_0,set_1,set_2,set_3,set_4,set_5,set_6,set_7]); with_reducible rfl))) | ((with_reducible apply DF.heap hT); (case hoi => ((simp only [List.getElem?_toArray,get32,get8,get_0,get_1,get_2,get_3,get_4,get_5,get_6,get_7]); with_reducible rfl)); (case hg => rfl); (case hk => rfl); (case hr => ((try simp (maxSteps := 3000000) (maxDischargeDepth := 12) only [seval,push_cast,appendX,get32,get8,get_0,get_1,get_2,get_3,get_4,get_5,get_6,get_7,set32,set8,set_0,set_1,set_2,set_3,set_4,set_5,set_6,set_7,Try.results6,dcml,dci,dcj,dci2,dci0,dcw,dcmS,dck,dck2,dck0,dcwk,dcee,dce1,dce2,dcpos,dcwj,dcj2,dcj0,dcff,dcle]); with_reducible rfl)); (case hl => (simp (maxSteps := 3000000) (maxDischargeDepth := 12) only [seval,push_cast,appendX,get32,get8,get_0,get_1,get_2,get_3,get_4,get_5,get_6,get_7,set32,set8,set_0,set_1,set_2,set_3,set_4,set_5,set_6,set_7,Try.results6,dcml,dci,dcj,dci2,dci0,dcw,dcmS,dck,dck2,dck0,dcwk,dcee,dce1,dce2,dcpos,dcwj,dcj2,dcj0,dcff,dcle]; done)); (case hp => ((try simp only [putD,set32,set8,set_0,set_1,set_2,set_3,set_4,set_5,set_6,set_7]); with_reducible rfl)))) | ((with_reducible refine AW.cond_true ?_ ?_); · rfl) | ((with_reducible refine AW.cond_false ?_ ?_); · rfl) | simp (maxSteps := 3000000) (maxDischargeDepth := 12) only [seval,push_cast,appendX,get32,get8,get_0,get_1,get_2,get_3,get_4,get_5,get_6,get_7,set32,set8,set_0,set_1,set_2,set_3,set_4,set_5,set_6,set_7,Try.results6,dcml,dci,dcj,dci2,dci0,dcw,dcmS,dck,dck2,dck0,dcwk,dcee,dce1,dce2,dcpos,dcwj,dcj2,dcj0,dcff,dcle])
          exact ⟨S.length + 1 - (k + 1), by omega, k + 1, rfl, by omega, rfl, by (simp only [push_cast, TellsL, tells_any, tells_refl])⟩
      · have dck : decide ((k : Int) < (S.length : Int)) = false := decide_eq_false (by omega)
        repeat (first | (with_reducible first | refine AW.seq ?_ | refine AW.block ?_ | refine AW.skip ?_ | refine AW.ret ?_ | refine AW.exit ?_ | refine AW.reg hT ?_) | ((with_reducible refine AW.cond_true ?_ ?_); · rfl) | ((with_reducible refine AW.cond_false ?_ ?_); · rfl) | simp (maxSteps := 3000000) (maxDischargeDepth := 12) only [seval,push_cast,appendX,get32,get8,get_0,get_1,get_2,get_3,get_4,get_5,get_6,get_7,set32,set8,set_0,set_1,set_2,set_3,set_4,set_5,set_6,set_7,Try.results6,dcml,dci,dcj,dci2,dci0,dcw,dcmS,dck])
        exact ⟨acts.length + 1 - (i + 1), by omega, i + 1, nx, bk, E, rfl, by omega, by omega, hp5, hg, hbk, hbk0, by omega, by (simp only [push_cast, TellsL, tells_any, tells_refl])⟩
    · have dcj : decide ((i : Int) < 100) = false := decide_eq_false (by omega)
      repeat (first | (with_reducible first | refine AW.seq ?_ | refine AW.block ?_ | refine AW.skip ?_ | refine AW.ret ?_ | refine AW.exit ?_ | refine AW.reg hT ?_) | ((with_reducible refine AW.cond_true ?_ ?_); · rfl) | ((with_reducible refine AW.cond_false ?_ ?_); · rfl) | simp (maxSteps := 3000000) (maxDischargeDepth := 12) only [seval,push_cast,appendX,get32,get8,get_0,get_1,get_2,get_3,get_4,get_5,get_6,get_7,set32,set8,set_0,set_1,set_2,set_3,set_4,set_5,set_6,set_7,Try.results6,dcml,dci,dcj])
  · have dci : decide ((i : Int) < (acts.length : Int)) = false := decide_eq_false (by omega)
    repeat (first | (with_reducible first | refine AW.seq ?_ | refine AW.block ?_ | refine AW.skip ?_ | refine AW.ret ?_ | refine AW.exit ?_ | refine AW.reg hT ?_) | ((with_reducible refine AW.cond_true ?_ ?_); · rfl) | ((with_reducible refine AW.cond_false ?_ ?_); · rfl) | simp (maxSteps := 3000000) (maxDischargeDepth := 12) only [seval,push_cast,appendX,get32,get8,get_0,get_1,get_2,get_3,get_4,get_5,get_6,get_7,set32,set8,set_0,set_1,set_2,set_3,set_4,set_5,set_6,set_7,Try.results6,dcml,dci])
end Go.Proofs.Ythdamnemoaaigaa.Cm
