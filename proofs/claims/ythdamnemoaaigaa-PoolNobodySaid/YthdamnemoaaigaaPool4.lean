/- PoolOnce. -/
import Derived.Test.YthdamnemoaaigaaPool3
import Derived.Test.YthdamnemoaaigaaCmKinds
namespace Go.Proofs.Ythdamnemoaaigaa.Cm
open Go.RowKit
set_option linter.unusedVariables false
set_option linter.unusedSimpArgs false
set_option maxRecDepth 20000
set_option maxHeartbeats 8000000
abbrev Ac := S32
def eAc (x : Ac) : List DV := e32 x
def wAc (x : Ac) : Prop := w32 x
theorem eAc_eq (x : Ac) : eAc x = [.sc (.bool x.f0), .sc (.bool x.f1), .sc (.int .i64 x.f2)] := rfl
theorem right_ok (σ : Heap) (lo hi : Int) : ACalls Try.prog 10 [.sc (.int .i64 lo), .sc (.int .i64 hi)] σ (fun y σ' => y = .sc (.bool (decide (right lo hi))) ∧ σ' = σ) := by
  refine ACalls.code hT Try.func10 rfl ?_
  simp only [Try.ntmps10, List.length_cons, List.length_nil, Nat.reduceSub, Nat.reduceAdd, List.replicate, List.cons_append, List.nil_append]
  by_cases h1 : 16 ≤ lo
  · have dc1 : decide (16 ≤ lo) = true := decide_eq_true h1
    by_cases h2 : hi ≤ 1048575
    · have dc2 : decide (hi ≤ 1048575) = true := decide_eq_true h2
      by_cases h3 : lo ≤ hi
      · have dc3 : decide (lo ≤ hi) = true := decide_eq_true h3
        have dcr : decide (right lo hi) = true := decide_eq_true ⟨h1, h2, h3⟩
        repeat (first | (with_reducible first | refine AW.seq ?_ | refine AW.block ?_ | refine AW.skip ?_ | refine AW.ret ?_ | refine AW.exit ?_ | refine AW.reg hT ?_) | ((with_reducible refine AW.cond_true ?_ ?_); · rfl) | ((with_reducible refine AW.cond_false ?_ ?_); · rfl) | simp (maxSteps := 3000000) (maxDischargeDepth := 12) only [seval,push_cast,appendX,Try.results10,dc1,dc2,dc3,dcr])
      · have dc3 : decide (lo ≤ hi) = false := decide_eq_false h3
        have dcr : decide (right lo hi) = false := decide_eq_false (fun h => h3 h.2.2)
        repeat (first | (with_reducible first | refine AW.seq ?_ | refine AW.block ?_ | refine AW.skip ?_ | refine AW.ret ?_ | refine AW.exit ?_ | refine AW.reg hT ?_) | ((with_reducible refine AW.cond_true ?_ ?_); · rfl) | ((with_reducible refine AW.cond_false ?_ ?_); · rfl) | simp (maxSteps := 3000000) (maxDischargeDepth := 12) only [seval,push_cast,appendX,Try.results10,dc1,dc2,dc3,dcr])
    · have dc2 : decide (hi ≤ 1048575) = false := decide_eq_false h2
      have dcr : decide (right lo hi) = false := decide_eq_false (fun h => h2 h.2.1)
      repeat (first | (with_reducible first | refine AW.seq ?_ | refine AW.block ?_ | refine AW.skip ?_ | refine AW.ret ?_ | refine AW.exit ?_ | refine AW.reg hT ?_) | ((with_reducible refine AW.cond_true ?_ ?_); · rfl) | ((with_reducible refine AW.cond_false ?_ ?_); · rfl) | simp (maxSteps := 3000000) (maxDischargeDepth := 12) only [seval,push_cast,appendX,Try.results10,dc1,dc2,dcr])
  · have dc1 : decide (16 ≤ lo) = false := decide_eq_false h1
    have dcr : decide (right lo hi) = false := decide_eq_false (fun h => h1 h.1)
    repeat (first | (with_reducible first | refine AW.seq ?_ | refine AW.block ?_ | refine AW.skip ?_ | refine AW.ret ?_ | refine AW.exit ?_ | refine AW.reg hT ?_) | ((with_reducible refine AW.cond_true ?_ ?_); · rfl) | ((with_reducible refine AW.cond_false ?_ ?_); · rfl) | simp (maxSteps := 3000000) (maxDischargeDepth := 12) only [seval,push_cast,appendX,Try.results10,dc1,dcr])
def onI (acts : List Ac) (p t : Nat) (lo hi : Int) (m : Nat) (ts : List DV) (σ : Heap) : Prop := ∃ (i : Nat) (nx : Int) (E : List (Int × DV)), m = acts.length + 1 - i ∧ i ≤ acts.length ∧ i ≤ 100 ∧ Pl σ p t nx hi E ∧ Gd lo hi nx E ∧ TellsL ts (.sc (.int .i64 lo) :: .sc (.int .i64 hi) :: .imm (acts.map eAc) :: .any :: .any :: .any :: .any :: .ptr p 0 0 1 :: .sc (.int .i64 (nx - 1)) :: .sc (.int .i64 i) :: .any :: .any :: .any :: .any :: .any :: .any :: .any :: .any :: .any :: .any :: .any :: .any :: .any :: .any :: .any :: .any :: .any :: .any :: .any :: .any :: .any :: .any :: .any :: .any :: .any :: .any :: .any :: .any :: .any :: .any :: .any :: .any :: .any :: .any :: .any :: .any :: .any :: .any :: .any :: .any :: .any :: .any :: .any :: .any :: .any :: .any :: .any :: .any :: .any :: .any :: .any :: .any :: .any :: .any :: .any :: .any :: .any :: .any :: .any :: .any :: .any :: .any :: .any :: .any :: [])
theorem once_ok (lo hi : Int) (acts : List Ac) (hlo : (Lit.int .i64 lo).wf = true) (hhi : (Lit.int .i64 hi).wf = true) (h : acts.length ≤ maxLen ∧ ∀ y ∈ acts, wAc y) : ACalls Try.prog 4 [.sc (.int .i64 lo), .sc (.int .i64 hi), .imm (acts.map eAc)] ⟨[]⟩ (fun x _ => x = .sc (.bool true)) := by
  obtain ⟨_, hw⟩ := h
  generalize (⟨[]⟩ : Heap) = σ
  have dcml : (acts.map eAc).length = acts.length := by simp
  refine ACalls.code hT Try.func4 rfl ?_
  simp only [Try.ntmps4, List.length_cons, List.length_nil, Nat.reduceSub, Nat.reduceAdd, List.replicate, List.cons_append, List.nil_append]
  repeat (first | (with_reducible first | refine AW.seq ?_ | refine AW.block ?_ | refine AW.skip ?_ | refine AW.ret ?_ | refine AW.exit ?_ | refine AW.reg hT ?_) | ((with_reducible refine AW.cond_true ?_ ?_); · rfl) | ((with_reducible refine AW.cond_false ?_ ?_); · rfl) | simp (maxSteps := 3000000) (maxDischargeDepth := 12) only [seval,push_cast,appendX,Try.results4,dcml])
  refine AOpsL.call (first := []) (cap := []) hT rfl rfl rfl fn8 rfl (ACalls.mono (alive_ok _) ?_)
  rintro y σ1 ⟨rfl, xt1⟩
  repeat (first | (with_reducible first | refine AW.seq ?_ | refine AW.block ?_ | refine AW.skip ?_ | refine AW.ret ?_ | refine AW.exit ?_ | refine AW.reg hT ?_) | ((with_reducible refine AW.cond_true ?_ ?_); · rfl) | ((with_reducible refine AW.cond_false ?_ ?_); · rfl) | simp (maxSteps := 3000000) (maxDischargeDepth := 12) only [seval,push_cast,appendX,Try.results4,dcml,xt1.2,xt1.ltT,xt1.leT])
  refine AOpsL.call (first := []) (cap := []) hT rfl rfl rfl fn9 rfl (ACalls.mono (pnew_ok _ lo hi) ?_)
  rintro y σ2 (⟨hr, rfl, rfl⟩ | ⟨hr, p, t, rfl, hp, hpn, htn, hx2⟩)
  · have dcr : decide (right lo hi) = false := decide_eq_false hr
    repeat (first | (with_reducible first | refine AW.seq ?_ | refine AW.block ?_ | refine AW.skip ?_ | refine AW.ret ?_ | refine AW.exit ?_ | refine AW.reg hT ?_) | ((with_reducible refine AW.cond_true ?_ ?_); · rfl) | ((with_reducible refine AW.cond_false ?_ ?_); · rfl) | simp (maxSteps := 3000000) (maxDischargeDepth := 12) only [seval,push_cast,appendX,Try.results4,dcml,xt1.2,xt1.ltT,xt1.leT,dcr])
    refine AOpsL.call (first := []) (cap := []) hT rfl rfl rfl fn10 rfl (ACalls.mono (right_ok _ lo hi) ?_)
    rintro y σ3 ⟨rfl, rfl⟩
    repeat (first | (with_reducible first | refine AW.seq ?_ | refine AW.block ?_ | refine AW.skip ?_ | refine AW.ret ?_ | refine AW.exit ?_ | refine AW.reg hT ?_) | ((with_reducible refine AW.cond_true ?_ ?_); · rfl) | ((with_reducible refine AW.cond_false ?_ ?_); · rfl) | simp (maxSteps := 3000000) (maxDischargeDepth := 12) only [seval,push_cast,appendX,Try.results4,dcml,xt1.2,xt1.ltT,xt1.leT,dcr])
  have hrr := hr
  unfold right at hrr
  have dcw0 : IntKind.i64.wrap (lo - 1) = lo - 1 := wrap_i64 (by omega) (by omega)
  repeat (first | (with_reducible first | refine AW.seq ?_ | refine AW.block ?_ | refine AW.skip ?_ | refine AW.ret ?_ | refine AW.exit ?_ | refine AW.reg hT ?_) | ((with_reducible refine AW.cond_true ?_ ?_); · rfl) | ((with_reducible refine AW.cond_false ?_ ?_); · rfl) | simp (maxSteps := 3000000) (maxDischargeDepth := 12) only [seval,push_cast,appendX,Try.results4,dcml,xt1.2,xt1.ltT,xt1.leT,dcw0])
  refine AW.loop (onI acts p t lo hi) (m := acts.length + 1) ⟨0, lo, [], rfl, Nat.zero_le _, Nat.zero_le _, hp, Gd.nil hr, by (simp only [push_cast, TellsL, tells_any, tells_refl])⟩ ?_
  clear xt1 hx2 hp hpn htn
  rintro m ts σ3 ⟨i, nx, E, rfl, hil, hi100, hp, hg, hts⟩
  refine AW.told hts ?_
  clear hts
  have g2 := hg.lo_
  have g3 := hg.hi_
  by_cases hi_ : i < acts.length
  · have dci : decide ((i : Int) < (acts.length : Int)) = true := decide_eq_true (by omega)
    by_cases hj : i < 100
    · have dcj : decide ((i : Int) < 100) = true := decide_eq_true (by omega)
      have dci2 : ((i : Int) < (acts.length : Int)) = True := by simp; omega
      have dci0 : ((0 : Int) ≤ (i : Int)) = True := by simp
      obtain ⟨x, hx⟩ : ∃ x, acts[i]? = some x := ⟨_, List.getElem?_eq_getElem hi_⟩
      have hxw : wAc x := hw x (List.mem_of_getElem? hx)
      have dcel : (acts.map eAc)[i]? = some (eAc x) := by rw [List.getElem?_map, hx]; rfl
      rw [eAc_eq] at dcel
      have dcw : IntKind.i64.wrap ((i : Int) + 1) = (i : Int) + 1 := wrap_i64 (by omega) (by omega)
      cases hb : x.f0 with
      | true =>
        have dcb := hb
        repeat (first | (with_reducible first | refine AW.seq ?_ | refine AW.block ?_ | refine AW.skip ?_ | refine AW.ret ?_ | refine AW.exit ?_ | refine AW.reg hT ?_) | ((with_reducible refine AW.cond_true ?_ ?_); · rfl) | ((with_reducible refine AW.cond_false ?_ ?_); · rfl) | simp (maxSteps := 3000000) (maxDischargeDepth := 12) only [seval,push_cast,appendX,Try.results4,dcml,dcw0,dci,dcj,dci2,dci0,dcel,dcw,dcb])
        refine AOpsL.call (first := []) (cap := []) hT rfl rfl rfl fn12 rfl (ACalls.mono (drop_any _ hp hg hxw.2.2) ?_)
        rintro y σ4 (⟨j, s, hj, rfl, hp4, hg4, hx4⟩ | ⟨hno, rfl, rfl⟩)
        · repeat (first | (with_reducible first | refine AW.seq ?_ | refine AW.block ?_ | refine AW.skip ?_ | refine AW.ret ?_ | refine AW.exit ?_ | refine AW.reg hT ?_) | ((with_reducible refine AW.cond_true ?_ ?_); · rfl) | ((with_reducible refine AW.cond_false ?_ ?_); · rfl) | simp (maxSteps := 3000000) (maxDischargeDepth := 12) only [seval,push_cast,appendX,Try.results4,dcml,dcw0,dci,dcj,dci2,dci0,dcel,dcw,dcb])
          exact ⟨acts.length + 1 - (i + 1), by omega, i + 1, nx, _, rfl, by omega, by omega, hp4, hg4, by (simp only [push_cast, TellsL, tells_any, tells_refl])⟩
        · repeat (first | (with_reducible first | refine AW.seq ?_ | refine AW.block ?_ | refine AW.skip ?_ | refine AW.ret ?_ | refine AW.exit ?_ | refine AW.reg hT ?_) | ((with_reducible refine AW.cond_true ?_ ?_); · rfl) | ((with_reducible refine AW.cond_false ?_ ?_); · rfl) | simp (maxSteps := 3000000) (maxDischargeDepth := 12) only [seval,push_cast,appendX,Try.results4,dcml,dcw0,dci,dcj,dci2,dci0,dcel,dcw,dcb])
          exact ⟨acts.length + 1 - (i + 1), by omega, i + 1, nx, E, rfl, by omega, by omega, hp, hg, by (simp only [push_cast, TellsL, tells_any, tells_refl])⟩
      | false =>
        have dcb := hb
        repeat (first | (with_reducible first | refine AW.seq ?_ | refine AW.block ?_ | refine AW.skip ?_ | refine AW.ret ?_ | refine AW.exit ?_ | refine AW.reg hT ?_) | ((with_reducible refine AW.cond_true ?_ ?_); · rfl) | ((with_reducible refine AW.cond_false ?_ ?_); · rfl) | simp (maxSteps := 3000000) (maxDischargeDepth := 12) only [seval,push_cast,appendX,Try.results4,dcml,dcw0,dci,dcj,dci2,dci0,dcel,dcw,dcb])
        refine AOpsL.call (first := []) (cap := []) hT rfl rfl rfl fn13 rfl (ACalls.mono (take_any _ hp hg) ?_)
        rintro y σ4 (⟨hle, rfl, ⟨s, hp4, hg4⟩, hx4⟩ | ⟨hnx, rfl, rfl⟩)
        · have dcle : decide (nx ≤ nx - 1) = false := decide_eq_false (by omega)
          have dcgt : decide (hi < nx) = false := decide_eq_false (by omega)
          have hnn : nx + 1 - 1 = nx := by omega
          repeat (first | (with_reducible first | refine AW.seq ?_ | refine AW.block ?_ | refine AW.skip ?_ | refine AW.ret ?_ | refine AW.exit ?_ | refine AW.reg hT ?_) | ((with_reducible refine AW.cond_true ?_ ?_); · rfl) | ((with_reducible refine AW.cond_false ?_ ?_); · rfl) | simp (maxSteps := 3000000) (maxDischargeDepth := 12) only [seval,push_cast,appendX,Try.results4,dcml,dcw0,dci,dcj,dci2,dci0,dcel,dcw,dcb,dcle,dcgt])
          exact ⟨acts.length + 1 - (i + 1), by omega, i + 1, nx + 1, _, rfl, by omega, by omega, hp4, hg4, by rw [hnn]; (simp only [push_cast, TellsL, tells_any, tells_refl])⟩
        · have hl0 : hi - nx + 1 = 0 := by omega
          repeat (first | (with_reducible first | refine AW.seq ?_ | refine AW.block ?_ | refine AW.skip ?_ | refine AW.ret ?_ | refine AW.exit ?_ | refine AW.reg hT ?_) | ((with_reducible refine AW.cond_true ?_ ?_); · rfl) | ((with_reducible refine AW.cond_false ?_ ?_); · rfl) | simp (maxSteps := 3000000) (maxDischargeDepth := 12) only [seval,push_cast,appendX,Try.results4,dcml,dcw0,dci,dcj,dci2,dci0,dcel,dcw,dcb])
          refine AOpsL.call (first := []) (cap := []) hT rfl rfl rfl fn18 rfl (ACalls.mono (left_ok _ hp (by omega) (by omega) (by omega) (by omega)) ?_)
          rintro y σ5 ⟨rfl, rfl⟩
          rw [hl0]
          repeat (first | (with_reducible first | refine AW.seq ?_ | refine AW.block ?_ | refine AW.skip ?_ | refine AW.ret ?_ | refine AW.exit ?_ | refine AW.reg hT ?_) | ((with_reducible refine AW.cond_true ?_ ?_); · rfl) | ((with_reducible refine AW.cond_false ?_ ?_); · rfl) | simp (maxSteps := 3000000) (maxDischargeDepth := 12) only [seval,push_cast,appendX,Try.results4,dcml,dcw0,dci,dcj,dci2,dci0,dcel,dcw,dcb])
          exact ⟨acts.length + 1 - (i + 1), by omega, i + 1, nx, E, rfl, by omega, by omega, hp, hg, by (simp only [push_cast, TellsL, tells_any, tells_refl])⟩
    · have dcj : decide ((i : Int) < 100) = false := decide_eq_false (by omega)
      repeat (first | (with_reducible first | refine AW.seq ?_ | refine AW.block ?_ | refine AW.skip ?_ | refine AW.ret ?_ | refine AW.exit ?_ | refine AW.reg hT ?_) | ((with_reducible refine AW.cond_true ?_ ?_); · rfl) | ((with_reducible refine AW.cond_false ?_ ?_); · rfl) | simp (maxSteps := 3000000) (maxDischargeDepth := 12) only [seval,push_cast,appendX,Try.results4,dcml,dcw0,dci,dcj])
  · have dci : decide ((i : Int) < (acts.length : Int)) = false := decide_eq_false (by omega)
    repeat (first | (with_reducible first | refine AW.seq ?_ | refine AW.block ?_ | refine AW.skip ?_ | refine AW.ret ?_ | refine AW.exit ?_ | refine AW.reg hT ?_) | ((with_reducible refine AW.cond_true ?_ ?_); · rfl) | ((with_reducible refine AW.cond_false ?_ ?_); · rfl) | simp (maxSteps := 3000000) (maxDischargeDepth := 12) only [seval,push_cast,appendX,Try.results4,dcml,dcw0,dci])
end Go.Proofs.Ythdamnemoaaigaa.Cm
