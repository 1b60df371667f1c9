/- WireKept. -/
import Derived.Test.YtcjlnaplkodgpaaKept1
namespace Go.Proofs.Ytcjlnaplkodgpaa.Cm
open Go.RowKit
set_option linter.unusedVariables false
set_option linter.unusedSimpArgs false
set_option maxRecDepth 20000
set_option maxHeartbeats 8000000
theorem nodup_len : ∀ (l m : List Nat), l.Nodup → (∀ x ∈ l, x ∈ m) → l.length ≤ m.length
  | [], m, _, _ => Nat.zero_le _
  | a :: l, m, h, hs => by
    rw [List.nodup_cons] at h
    have ha := hs a (by simp)
    have := nodup_len l (m.erase a) h.2 (fun x hx => (List.mem_erase_of_ne (fun e => h.1 (by rw [← e]; exact hx))).2 (hs x (List.mem_cons_of_mem _ hx)))
    rw [List.length_erase_of_mem ha] at this
    have hp := List.length_pos_of_mem ha
    rw [List.length_cons]; omega
theorem js_len {n : Nat} {js : List Nat} (h1 : js.Nodup) (h2 : ∀ j ∈ js, j < n) : js.length ≤ n := by
  have := nodup_len js (List.range n) h1 (fun j hj => List.mem_range.2 (h2 j hj))
  simpa using this
theorem cw_drop {l : List Nt} {n : Nat} {x : Nt} (j : List Int) (h : l[n]? = some x) : cw (l.drop n) j = (if j = x.f3 then 1 else 0) + cw (l.drop (n + 1)) j := by
  obtain ⟨hn, rfl⟩ := List.getElem?_eq_some_iff.1 h
  rw [List.drop_eq_getElem_cons hn, cw]
def kept2I (w : Wi) (Ei : List KE) (tv tu : Nat) (m : Nat) (ts : List DV) (σ : Heap) : Prop := ∃ n Eo, m = w.l.length + 1 - n ∧ n ≤ w.l.length ∧ σ.get tv = some (mO Ei) ∧ σ.get tu = some (mO Eo) ∧ MOk (600 + (n : Int)) Eo ∧ (∀ j, cnt Ei j = cnt Eo j + cw (w.l.drop n) j) ∧ TellsL ts (.any :: .any :: .any :: .any :: .any :: .any :: .mp tv :: .mp tu :: .any :: .any :: .any :: .any :: .any :: .any :: .any :: .any :: .any :: .any :: .any :: .any :: .any :: .any :: .any :: .any :: .any :: .any :: .any :: .any :: .any :: .any :: .any :: .any :: .any :: .any :: .any :: .any :: .any :: .any :: .any :: .any :: .any :: .any :: .any :: .any :: .any :: .any :: .any :: .any :: .any :: .any :: .any :: .any :: .any :: .any :: .any :: .any :: .any :: .any :: .any :: .any :: .any :: .any :: .any :: .any :: .any :: .any :: .any :: .any :: .any :: .any :: .any :: .any :: .any :: .any :: .any :: .any :: .any :: .any :: .any :: .any :: .any :: .any :: .any :: .any :: .any :: .any :: .any :: .any :: .any :: .any :: .any :: .any :: .any :: .any :: .any :: .any :: .any :: .any :: .any :: .any :: .any :: .any :: .any :: .any :: .any :: .any :: .any :: .any :: .any :: .any :: .any :: .any :: .any :: .imm (w.l.map eN) :: .sc (.int .i64 w.l.length) :: .sc (.int .i64 n) :: .any :: .any :: .any :: .any :: .any :: .any :: .any :: .any :: .any :: .any :: .any :: .any :: .any :: .any :: .any :: .any :: .any :: .any :: .any :: .any :: .any :: .any :: .any :: .any :: .any :: .any :: .any :: [])
def kept3I (Ei Eo : List KE) (tv tu q k : Nat) (m : Nat) (ts : List DV) (σ : Heap) : Prop := ∃ js : List Nat, m = Ei.length + 1 - js.length ∧ js.Nodup ∧ (∀ j ∈ js, j < Ei.length) ∧ σ.get q = some ⟨itEls (Ei.map mK) tv k js, 1000000000, none⟩ ∧ σ.get tv = some ⟨Ei.map mK, 55 + 2000000000 * (k + 1), none⟩ ∧ σ.get tu = some (mO Eo) ∧ TellsL ts (.any :: .any :: .any :: .any :: .any :: .any :: .mp tv :: .mp tu :: .any :: .any :: .any :: .any :: .any :: .any :: .any :: .any :: .any :: .any :: .any :: .any :: .any :: .any :: .any :: .any :: .any :: .any :: .any :: .any :: .any :: .any :: .any :: .any :: .any :: .any :: .any :: .any :: .any :: .any :: .any :: .any :: .any :: .any :: .any :: .any :: .any :: .any :: .any :: .any :: .any :: .any :: .any :: .any :: .any :: .any :: .any :: .any :: .any :: .any :: .any :: .any :: .any :: .any :: .any :: .any :: .any :: .any :: .any :: .any :: .any :: .any :: .any :: .any :: .any :: .any :: .any :: .any :: .any :: .any :: .any :: .any :: .any :: .any :: .any :: .any :: .any :: .any :: .any :: .any :: .any :: .any :: .any :: .any :: .any :: .any :: .any :: .any :: .any :: .any :: .any :: .any :: .any :: .any :: .any :: .any :: .any :: .any :: .any :: .any :: .any :: .any :: .any :: .any :: .any :: .any :: .any :: .any :: .any :: .any :: .any :: .any :: .any :: .any :: .any :: .any :: .any :: .any :: .any :: .it q :: .any :: .any :: .any :: .any :: .any :: .any :: .any :: .any :: .any :: .any :: .any :: .any :: .any :: .any :: .any :: [])
theorem Hold.rowN {σ : Heap} {t n : Nat} {e : TypeId} {els : List (List DV)} (h : σ.get t = some ⟨els, e, true⟩) (hn : n = els.length) : Hold σ (.sl t 0 n n) e els := by subst hn; exact Hold.row h
def lab (i : Nat) : List Int := [(i : Int) % 256, (i : Int) / 256]
theorem lab_octs {i : Nat} (h : i ≤ 600) : Octs (lab i) := by
  intro x hx
  simp [lab] at hx
  omega
def keptI (l : List Ac) (R : Int) (p tv tu : Nat) (m : Nat) (ts : List DV) (σ : Heap) : Prop := ∃ i fp w Ei Eo, m = 601 - i ∧ i ≤ l.length ∧ i ≤ 600 ∧ Kp R i p tv tu fp w Ei Eo σ ∧ TellsL ts (.any :: .imm (l.map eAc) :: .any :: .any :: .any :: .ptr p 0 0 1 :: .mp tv :: .mp tu :: .sc (.int .i64 i) :: .any :: .any :: .any :: .any :: .any :: .any :: .any :: .any :: .any :: .any :: .any :: .any :: .any :: .any :: .any :: .any :: .any :: .any :: .any :: .any :: .any :: .any :: .any :: .any :: .any :: .any :: .any :: .any :: .any :: .any :: .any :: .any :: .any :: .any :: .any :: .any :: .any :: .any :: .any :: .any :: .any :: .any :: .any :: .any :: .any :: .any :: .any :: .any :: .any :: .any :: .any :: .any :: .any :: .any :: .any :: .any :: .any :: .any :: .any :: .any :: .any :: .any :: .any :: .any :: .any :: .any :: .any :: .any :: .any :: .any :: .any :: .any :: .any :: .any :: .any :: .any :: .any :: .any :: .any :: .any :: .any :: .any :: .any :: .any :: .any :: .any :: .any :: .any :: .any :: .any :: .any :: .any :: .any :: .any :: .any :: .any :: .any :: .any :: .any :: .any :: .any :: .any :: .any :: .any :: .any :: .any :: .any :: .any :: .any :: .any :: .any :: .any :: .any :: .any :: .any :: .any :: .any :: .any :: .any :: .any :: .any :: .any :: .any :: .any :: .any :: .any :: .any :: .any :: .any :: .any :: .any :: .any :: .any :: .any :: [])
theorem kept_ok (size : Int) (l : List Ac) (hs : (Lit.int .u8 size).wf = true) (h : l.length ≤ maxLen ∧ ∀ y ∈ l, w43 y) : ACalls Try.prog 5 [.sc (.int .u8 size), .imm (l.map eAc)] ⟨[]⟩ (fun x _ => x = .sc (.bool true)) := by
  generalize (⟨[]⟩ : Heap) = σ
  have hsz := wf_u8 hs
  have htm : size.tmod 40 = size % 40 := Int.tmod_eq_emod_of_nonneg hsz.1
  obtain ⟨R, hR⟩ : ∃ R, R = size.tmod 40 + 1 := ⟨_, rfl⟩
  have hR1 : 1 ≤ R ∧ R ≤ 40 := by omega
  have dcw1 : IntKind.i64.wrap (size.tmod 40) = size.tmod 40 := wrap_i64 (by omega) (by omega)
  have dcw2 : IntKind.i64.wrap (size.tmod 40 + 1) = R := by rw [← hR]; exact wrap_i64 (by omega) (by omega)
  have dcml : (l.map eAc).length = l.length := by simp
  refine ACalls.code hT Try.func5 rfl ?_
  simp only [Try.ntmps5, List.length_cons, List.length_nil, Nat.reduceSub, Nat.reduceAdd, List.replicate, List.cons_append, List.nil_append]
  repeat (first | (with_reducible first | refine AW.seq ?_ | refine AW.block ?_ | refine AW.skip ?_ | refine AW.ret ?_ | refine AW.exit ?_ | refine AW.reg hT ?_) | ((with_reducible refine AW.cond_true ?_ ?_); · (simp (maxSteps := 3000000) (maxDischargeDepth := 12) only [seval,push_cast,appendX,dcw1,dcw2,dcml]; done)) | ((with_reducible refine AW.cond_false ?_ ?_); · (simp (maxSteps := 3000000) (maxDischargeDepth := 12) only [seval,push_cast,appendX,dcw1,dcw2,dcml]; done)) | simp (maxSteps := 3000000) (maxDischargeDepth := 12) only [seval,push_cast,appendX,Try.results5,dcw1,dcw2,dcml])
  refine AOpsL.call (first := []) (cap := []) hT rfl rfl rfl fn7 rfl (ACalls.mono (alive_ok _) ?_)
  rintro y σ1 ⟨rfl, xt1⟩
  repeat (first | (with_reducible first | refine AW.seq ?_ | refine AW.block ?_ | refine AW.skip ?_ | refine AW.ret ?_ | refine AW.exit ?_ | refine AW.reg hT ?_) | ((with_reducible refine AW.cond_true ?_ ?_); · (simp (maxSteps := 3000000) (maxDischargeDepth := 12) only [seval,push_cast,appendX,dcw1,dcw2,dcml,xt1.2,xt1.ltT,xt1.leT]; done)) | ((with_reducible refine AW.cond_false ?_ ?_); · (simp (maxSteps := 3000000) (maxDischargeDepth := 12) only [seval,push_cast,appendX,dcw1,dcw2,dcml,xt1.2,xt1.ltT,xt1.leT]; done)) | simp (maxSteps := 3000000) (maxDischargeDepth := 12) only [seval,push_cast,appendX,Try.results5,dcw1,dcw2,dcml,xt1.2,xt1.ltT,xt1.leT])
  refine AOpsL.call (first := []) (cap := []) hT rfl rfl rfl fn8 rfl (ACalls.mono (new_ok _ R hR1.1 (by omega)) ?_)
  rintro y σ2 ⟨rfl, hσ2⟩
  have w0 := new_wire σ1 R
  rw [← hσ2] at w0
  generalize σ1.n = p at w0 ⊢
  clear hσ2 xt1
  repeat (first | (with_reducible first | refine AW.seq ?_ | refine AW.block ?_ | refine AW.skip ?_ | refine AW.ret ?_ | refine AW.exit ?_ | refine AW.reg hT ?_) | ((with_reducible refine AW.cond_true ?_ ?_); · (simp (maxSteps := 3000000) (maxDischargeDepth := 12) only [seval,push_cast,appendX,dcw1,dcw2,dcml]; done)) | ((with_reducible refine AW.cond_false ?_ ?_); · (simp (maxSteps := 3000000) (maxDischargeDepth := 12) only [seval,push_cast,appendX,dcw1,dcw2,dcml]; done)) | simp (maxSteps := 3000000) (maxDischargeDepth := 12) only [seval,push_cast,appendX,Try.results5,dcw1,dcw2,dcml])
  refine AOpsL.rule hT rfl (AOp.makeMap hT rfl rfl (by decide) ?_)
  repeat (first | (with_reducible first | refine AW.seq ?_ | refine AW.block ?_ | refine AW.skip ?_ | refine AW.ret ?_ | refine AW.exit ?_ | refine AW.reg hT ?_) | ((with_reducible refine AW.cond_true ?_ ?_); · (simp (maxSteps := 3000000) (maxDischargeDepth := 12) only [seval,push_cast,appendX,dcw1,dcw2,dcml]; done)) | ((with_reducible refine AW.cond_false ?_ ?_); · (simp (maxSteps := 3000000) (maxDischargeDepth := 12) only [seval,push_cast,appendX,dcw1,dcw2,dcml]; done)) | simp (maxSteps := 3000000) (maxDischargeDepth := 12) only [seval,push_cast,appendX,Try.results5,dcw1,dcw2,dcml])
  refine AOpsL.rule hT rfl (AOp.makeMap hT rfl rfl (by decide) ?_)
  repeat ((fail_if_success (with_reducible refine AW.at1 (id := 7) ?_)); (fail_if_success (with_reducible refine AW.at2 (id := 7) ?_)); first | (with_reducible first | refine AW.seq ?_ | refine AW.block ?_ | refine AW.skip ?_ | refine AW.ret ?_ | refine AW.exit ?_ | refine AW.reg hT ?_) | ((with_reducible refine AW.cond_true ?_ ?_); · (simp (maxSteps := 3000000) (maxDischargeDepth := 12) only [seval,push_cast,appendX,dcw1,dcw2,dcml]; done)) | ((with_reducible refine AW.cond_false ?_ ?_); · (simp (maxSteps := 3000000) (maxDischargeDepth := 12) only [seval,push_cast,appendX,dcw1,dcw2,dcml]; done)) | simp (maxSteps := 3000000) (maxDischargeDepth := 12) only [seval,push_cast,appendX,Try.results5,dcw1,dcw2,dcml])
  refine AW.name (fun σ3 hσ3 => ?_)
  have k0 : Kp R 0 p σ2.n (σ2.n + 1) [p] ⟨R, [], 0⟩ [] [] σ3 := by
    subst hσ3
    exact ⟨w0.frame (X := []) (by repeat (first | exact Ext.refl _ _ | assumption | refine Ext.push ?_ _ | ((refine Ext.set ?_ ?_ _); rotate_left; · (simp (maxSteps := 3000000) (maxDischargeDepth := 12) only [push_cast, appendX, Nat.reduceAdd, Nat.reduceEqDiff, Nat.reduceLT, Nat.reduceLeDiff, reduceIte, reduceCtorEq, dcw1, dcw2, dcml])) | ((refine Ext.then1 (by assumption) ?_ ?_); rotate_left; · (intro p hp _; first | assumption | exact List.mem_cons_of_mem _ hp | (cases hp; done) | (simp at hp; subst hp; simp))))) (by simp), ⟨rfl, by simp, by simp, by simp, by simp⟩, by simp (maxSteps := 3000000) (maxDischargeDepth := 12) only [push_cast, appendX, Nat.reduceAdd, Nat.reduceEqDiff, Nat.reduceLT, Nat.reduceLeDiff, reduceIte, reduceCtorEq, mO, List.map_nil, dcw1, dcw2, dcml], by simp (maxSteps := 3000000) (maxDischargeDepth := 12) only [push_cast, appendX, Nat.reduceAdd, Nat.reduceEqDiff, Nat.reduceLT, Nat.reduceLeDiff, reduceIte, reduceCtorEq, mO, List.map_nil, dcw1, dcw2, dcml], ⟨by simp, by simp, by simp, by simp⟩, ⟨by simp, by simp, by simp, by simp⟩, by simp [cnt, cw], by simp, by omega⟩
  clear hσ3 w0
  generalize σ2.n = tv at k0 ⊢
  generalize tv + 1 = tu at k0 ⊢
  refine AW.seqK (fun ts σ' => ∃ i fp w Ei Eo, i ≤ 600 ∧ Kp R i p tv tu fp w Ei Eo σ' ∧ TellsL ts (.any :: .any :: .any :: .any :: .any :: .ptr p 0 0 1 :: .mp tv :: .mp tu :: .any :: .any :: .any :: .any :: .any :: .any :: .any :: .any :: .any :: .any :: .any :: .any :: .any :: .any :: .any :: .any :: .any :: .any :: .any :: .any :: .any :: .any :: .any :: .any :: .any :: .any :: .any :: .any :: .any :: .any :: .any :: .any :: .any :: .any :: .any :: .any :: .any :: .any :: .any :: .any :: .any :: .any :: .any :: .any :: .any :: .any :: .any :: .any :: .any :: .any :: .any :: .any :: .any :: .any :: .any :: .any :: .any :: .any :: .any :: .any :: .any :: .any :: .any :: .any :: .any :: .any :: .any :: .any :: .any :: .any :: .any :: .any :: .any :: .any :: .any :: .any :: .any :: .any :: .any :: .any :: .any :: .any :: .any :: .any :: .any :: .any :: .any :: .any :: .any :: .any :: .any :: .any :: .any :: .any :: .any :: .any :: .any :: .any :: .any :: .any :: .any :: .any :: .any :: .any :: .any :: .any :: .any :: .any :: .any :: .any :: .any :: .any :: .any :: .any :: .any :: .any :: .any :: .any :: .any :: .any :: .any :: .any :: .any :: .any :: .any :: .any :: .any :: .any :: .any :: .any :: .any :: .any :: .any :: .any :: .any :: [])) ?_ ?_
  rotate_left
  · rintro ts σ4 ⟨i, fp, w, Ei, Eo, hi6, hK, hts⟩
    refine AW.told hts ?_
    clear hts k0
    have hok := hK.hin.ok (by omega) hi6
    have hwl := hK.hin.len
    repeat (first | (with_reducible first | refine AW.seq ?_ | refine AW.block ?_ | refine AW.skip ?_ | refine AW.ret ?_ | refine AW.exit ?_ | refine AW.reg hT ?_) | ((with_reducible refine AW.cond_true ?_ ?_); · (simp (maxSteps := 3000000) (maxDischargeDepth := 12) only [seval,push_cast,appendX,dcw1,dcw2,dcml]; done)) | ((with_reducible refine AW.cond_false ?_ ?_); · (simp (maxSteps := 3000000) (maxDischargeDepth := 12) only [seval,push_cast,appendX,dcw1,dcw2,dcml]; done)) | simp (maxSteps := 3000000) (maxDischargeDepth := 12) only [seval,push_cast,appendX,Try.results5,dcw1,dcw2,dcml])
    refine AOpsL.call (first := []) (cap := []) hT rfl rfl rfl fn22 rfl (ACalls.mono (wall_ok _ hK.hw hok) ?_)
    rintro y σ5 ⟨rfl, xt5⟩
    have dcml2 : (w.l.map eN).length = w.l.length := by simp
    have hbal0 : ∀ j, cnt Ei j = cnt Eo j + cw (w.l.drop 0) j := hK.bal
    have hob := hK.ob
    have hin := hK.hin
    have hmi := hK.mi
    have hne := hK.ne
    repeat (first | (with_reducible first | refine AW.seq ?_ | refine AW.block ?_ | refine AW.skip ?_ | refine AW.ret ?_ | refine AW.exit ?_ | refine AW.reg hT ?_) | ((with_reducible refine AW.cond_true ?_ ?_); · (simp (maxSteps := 3000000) (maxDischargeDepth := 12) only [seval,push_cast,appendX,dcw1,dcw2,dcml,xt5.2,xt5.ltT,xt5.leT,dcml2]; done)) | ((with_reducible refine AW.cond_false ?_ ?_); · (simp (maxSteps := 3000000) (maxDischargeDepth := 12) only [seval,push_cast,appendX,dcw1,dcw2,dcml,xt5.2,xt5.ltT,xt5.leT,dcml2]; done)) | simp (maxSteps := 3000000) (maxDischargeDepth := 12) only [seval,push_cast,appendX,Try.results5,dcw1,dcw2,dcml,xt5.2,xt5.ltT,xt5.leT,dcml2])
    refine AW.loop (kept2I w Ei tv tu) (m := w.l.length + 1) ⟨0, Eo, rfl, Nat.zero_le _, xt5.get hK.gi (by simp), xt5.get hK.go (by simp), hK.mo.up (by omega), hbal0, by (simp only [push_cast, TellsL, tells_any, tells_refl])⟩ ?_
    clear hbal0 hK xt5 hok
    rintro m ts σ6 ⟨n, Eo, rfl, hn, gv, gu, hmo, hbal, hts⟩
    refine AW.told hts ?_
    clear hts
    by_cases hlt : n < w.l.length
    · have dcn1 : decide ((n : Int) < (w.l.length : Int)) = true := by simp; omega
      have dcn2 : ((n : Int) < (w.l.length : Int)) = True := by simp; omega
      have dcn0 : ((0 : Int) ≤ (n : Int)) = True := by simp
      have dcwr : IntKind.i64.wrap ((n : Int) + 1) = (n : Int) + 1 := wrap_i64 (by omega) (by omega)
      have hnc : (((n + 1 : Nat)) : Int) = (n : Int) + 1 := by omega
      obtain ⟨x, hx⟩ : ∃ x, w.l[n]? = some x := ⟨_, List.getElem?_eq_getElem hlt⟩
      have hel2 : (w.l.map eN)[n]? = some (eN x) := by rw [List.getElem?_map, hx]; rfl
      rw [eN_eq] at hel2
      have dcel2 := hel2
      have hxo := hob x (List.mem_of_getElem? hx)
      have hxl : x.f3.length ≤ 1000000 := by have := hin.bytes x (List.mem_of_getElem? hx); omega
      repeat (first | (with_reducible first | refine AW.seq ?_ | refine AW.block ?_ | refine AW.skip ?_ | refine AW.ret ?_ | refine AW.exit ?_ | refine AW.reg hT ?_) | ((with_reducible refine AW.cond_true ?_ ?_); · (simp (maxSteps := 3000000) (maxDischargeDepth := 12) only [seval,push_cast,appendX,dcw1,dcw2,dcml,dcml2,dcn1,dcn2,dcn0,dcwr,dcel2]; done)) | ((with_reducible refine AW.cond_false ?_ ?_); · (simp (maxSteps := 3000000) (maxDischargeDepth := 12) only [seval,push_cast,appendX,dcw1,dcw2,dcml,dcml2,dcn1,dcn2,dcn0,dcwr,dcel2]; done)) | simp (maxSteps := 3000000) (maxDischargeDepth := 12) only [seval,push_cast,appendX,Try.results5,dcw1,dcw2,dcml,dcml2,dcn1,dcn2,dcn0,dcwr,dcel2])
      refine AOpsL.bump (t := tu) (E := Eo) (k := x.f3) (B := 600 + (n : Int)) rfl rfl rfl rfl rfl rfl rfl rfl rfl rfl rfl (fun v => rfl) (fun v w => ⟨rfl, rfl, rfl⟩) (by simp (maxSteps := 3000000) (maxDischargeDepth := 12) only [push_cast, appendX, Nat.reduceAdd, Nat.reduceEqDiff, Nat.reduceLT, Nat.reduceLeDiff, reduceIte, reduceCtorEq, gu, Heap.lt gu, dcw1, dcw2, dcml, dcml2, dcn1, dcn2, dcn0, dcwr, dcel2]) hmo (by omega) hxo hxl ?_
      intro E' v1 v2 hm hc
      refine AOpsL.nil ?_
      repeat (first | (with_reducible first | refine AW.seq ?_ | refine AW.block ?_ | refine AW.skip ?_ | refine AW.ret ?_ | refine AW.exit ?_ | refine AW.reg hT ?_) | ((with_reducible refine AW.cond_true ?_ ?_); · (simp (maxSteps := 3000000) (maxDischargeDepth := 12) only [seval,push_cast,appendX,dcw1,dcw2,dcml,dcml2,dcn1,dcn2,dcn0,dcwr,dcel2]; done)) | ((with_reducible refine AW.cond_false ?_ ?_); · (simp (maxSteps := 3000000) (maxDischargeDepth := 12) only [seval,push_cast,appendX,dcw1,dcw2,dcml,dcml2,dcn1,dcn2,dcn0,dcwr,dcel2]; done)) | simp (maxSteps := 3000000) (maxDischargeDepth := 12) only [seval,push_cast,appendX,Try.results5,dcw1,dcw2,dcml,dcml2,dcn1,dcn2,dcn0,dcwr,dcel2])
      have htv := Heap.lt gv
      have htu := Heap.lt gu
      refine ⟨w.l.length + 1 - (n + 1), by omega, n + 1, E', rfl, hlt, ?_, ?_, hm.up (by omega), fun j => ?_, by (simp only [push_cast, TellsL, tells_any, tells_refl, hnc])⟩
      · rw [Heap.get_set_ne (Ne.symm hne)]; simp (maxSteps := 3000000) (maxDischargeDepth := 12) only [push_cast, appendX, Nat.reduceAdd, Nat.reduceEqDiff, Nat.reduceLT, Nat.reduceLeDiff, reduceIte, reduceCtorEq, gv, Heap.lt gv, dcw1, dcw2, dcml, dcml2, dcn1, dcn2, dcn0, dcwr, dcel2]
      · exact Heap.get_set (by simp; omega)
      · rw [hc j, hbal j, cw_drop j hx]; omega
    · have dcn1 : decide ((n : Int) < (w.l.length : Int)) = false := by simp; omega
      have hd0 : w.l.drop n = [] := List.drop_eq_nil_of_le (by omega)
      have hcnt : ∀ j, cnt Ei j = cnt Eo j := fun j => by rw [hbal j, hd0, cw]; omega
      have hlen := same_len hmi hmo hcnt
      clear hbal
      repeat ((fail_if_success (with_reducible refine AW.at1 (id := 30) ?_)); (fail_if_success (with_reducible refine AW.at2 (id := 30) ?_)); first | (with_reducible first | refine AW.seq ?_ | refine AW.block ?_ | refine AW.skip ?_ | refine AW.ret ?_ | refine AW.exit ?_ | refine AW.reg hT ?_) | ((with_reducible refine AW.cond_true ?_ ?_); · (simp (maxSteps := 3000000) (maxDischargeDepth := 12) only [seval,push_cast,appendX,dcw1,dcw2,dcml,dcml2,dcn1]; done)) | ((with_reducible refine AW.cond_false ?_ ?_); · (simp (maxSteps := 3000000) (maxDischargeDepth := 12) only [seval,push_cast,appendX,dcw1,dcw2,dcml,dcml2,dcn1]; done)) | simp (maxSteps := 3000000) (maxDischargeDepth := 12) only [seval,push_cast,appendX,Try.results5,dcw1,dcw2,dcml,dcml2,dcn1])
      refine AW.clock (t := tv) gv (by decide) (fun k => ?_)
      have htv := Heap.lt gv
      have gv1 : (σ6.set tv ⟨Ei.map mK, 55 + 2000000000 * (k + 1), none⟩).get tv = some ⟨Ei.map mK, 55 + 2000000000 * (k + 1), none⟩ := Heap.get_set htv
      have gu1 : (σ6.set tv ⟨Ei.map mK, 55 + 2000000000 * (k + 1), none⟩).get tu = some (mO Eo) := by rw [Heap.get_set_ne hne]; exact gu
      generalize σ6.set tv ⟨Ei.map mK, 55 + 2000000000 * (k + 1), none⟩ = σ7 at gv1 gu1 ⊢
      clear gv gu htv
      repeat (first | (with_reducible first | refine AW.seq ?_ | refine AW.block ?_ | refine AW.skip ?_ | refine AW.ret ?_ | refine AW.exit ?_ | refine AW.reg hT ?_) | ((with_reducible refine AW.cond_true ?_ ?_); · (simp (maxSteps := 3000000) (maxDischargeDepth := 12) only [seval,push_cast,appendX,dcw1,dcw2,dcml,dcml2,dcn1]; done)) | ((with_reducible refine AW.cond_false ?_ ?_); · (simp (maxSteps := 3000000) (maxDischargeDepth := 12) only [seval,push_cast,appendX,dcw1,dcw2,dcml,dcml2,dcn1]; done)) | simp (maxSteps := 3000000) (maxDischargeDepth := 12) only [seval,push_cast,appendX,Try.results5,dcw1,dcw2,dcml,dcml2,dcn1])
      refine AOpsL.rule hT rfl (AOp.rangeMap (k := k) (els := Ei.map mK) (t := tv) hT rfl rfl (by decide) rfl gv1 ?_)
      repeat (first | (with_reducible first | refine AW.seq ?_ | refine AW.block ?_ | refine AW.skip ?_ | refine AW.ret ?_ | refine AW.exit ?_ | refine AW.reg hT ?_) | ((with_reducible refine AW.cond_true ?_ ?_); · (simp (maxSteps := 3000000) (maxDischargeDepth := 12) only [seval,push_cast,appendX,dcw1,dcw2,dcml,dcml2,dcn1]; done)) | ((with_reducible refine AW.cond_false ?_ ?_); · (simp (maxSteps := 3000000) (maxDischargeDepth := 12) only [seval,push_cast,appendX,dcw1,dcw2,dcml,dcml2,dcn1]; done)) | simp (maxSteps := 3000000) (maxDischargeDepth := 12) only [seval,push_cast,appendX,Try.results5,dcw1,dcw2,dcml,dcml2,dcn1])
      have gq1 : (σ7.push ⟨itEls (Ei.map mK) tv k [], 1000000000, none⟩).get σ7.n = some ⟨itEls (Ei.map mK) tv k [], 1000000000, none⟩ := Heap.get_push
      refine AW.loop (kept3I Ei Eo tv tu σ7.n k) (m := Ei.length + 1) ⟨[], by simp, by simp, by simp, gq1, by simp (maxSteps := 3000000) (maxDischargeDepth := 12) only [push_cast, appendX, Nat.reduceAdd, Nat.reduceEqDiff, Nat.reduceLT, Nat.reduceLeDiff, reduceIte, reduceCtorEq, gv1, Heap.lt gv1, dcw1, dcw2, dcml, dcml2, dcn1], by simp (maxSteps := 3000000) (maxDischargeDepth := 12) only [push_cast, appendX, Nat.reduceAdd, Nat.reduceEqDiff, Nat.reduceLT, Nat.reduceLeDiff, reduceIte, reduceCtorEq, gu1, Heap.lt gu1, dcw1, dcw2, dcml, dcml2, dcn1], by (simp only [push_cast, TellsL, tells_any, tells_refl])⟩ ?_
      clear gq1 gv1 gu1
      generalize σ7.n = q
      rintro m ts σ8 ⟨js, rfl, hnd, hjl, gq, gv, gu, hts⟩
      refine AW.told hts ?_
      clear hts
      have hjn := js_len hnd hjl
      have hjl' : ∀ j ∈ js, j < (Ei.map mK).length := by simpa using hjl
      by_cases hs : ∃ i, i < (Ei.map mK).length ∧ i ∉ js
      · repeat (first | (with_reducible first | refine AW.seq ?_ | refine AW.block ?_ | refine AW.skip ?_ | refine AW.ret ?_ | refine AW.exit ?_ | refine AW.reg hT ?_) | ((with_reducible refine AW.cond_true ?_ ?_); · (simp (maxSteps := 3000000) (maxDischargeDepth := 12) only [seval,push_cast,appendX,dcw1,dcw2,dcml,dcml2,dcn1]; done)) | ((with_reducible refine AW.cond_false ?_ ?_); · (simp (maxSteps := 3000000) (maxDischargeDepth := 12) only [seval,push_cast,appendX,dcw1,dcw2,dcml,dcml2,dcn1]; done)) | simp (maxSteps := 3000000) (maxDischargeDepth := 12) only [seval,push_cast,appendX,Try.results5,dcw1,dcw2,dcml,dcml2,dcn1])
        refine AOpsL.rule hT rfl (AOp.next_some (t := tv) (k := k) (js := js) (q := q) hT rfl (ty := 55) (by decide) rfl gq gv hjl' hs (fun i2 kd v sd hni hel => ?_))
        obtain ⟨e, he⟩ : ∃ e, Ei[i2]? = some e := by
          have := (List.getElem?_eq_some_iff.1 hel).1
          rw [List.length_map] at this
          exact ⟨_, List.getElem?_eq_getElem this⟩
        have hie : i2 < Ei.length := (List.getElem?_eq_some_iff.1 he).1
        have hel2 := hel
        rw [List.getElem?_map, he] at hel2
        simp only [Option.map_some, mK, Option.some.injEq, List.cons.injEq, and_true] at hel2
        obtain ⟨rfl, rfl, rfl⟩ := hel2
        have hltq := Heap.lt gq
        have htq : tv ≠ q := fun e => by rw [e, gq] at gv; simp [itEls] at gv; exact clash4 gv.2.symm
        have huq : tu ≠ q := fun e => by rw [e, gq] at gu; simp [mO] at gu
        have gq4 : (σ8.set q ⟨itEls (Ei.map mK) tv k (js ++ [i2]), 1000000000, none⟩).get q = some ⟨itEls (Ei.map mK) tv k (js ++ [i2]), 1000000000, none⟩ := Heap.get_set hltq
        have gv4 : (σ8.set q ⟨itEls (Ei.map mK) tv k (js ++ [i2]), 1000000000, none⟩).get tv = some ⟨Ei.map mK, 55 + 2000000000 * (k + 1), none⟩ := by rw [Heap.get_set_ne (Ne.symm htq)]; exact gv
        have gu4 : (σ8.set q ⟨itEls (Ei.map mK) tv k (js ++ [i2]), 1000000000, none⟩).get tu = some (mO Eo) := by rw [Heap.get_set_ne (Ne.symm huq)]; exact gu
        generalize σ8.set q ⟨itEls (Ei.map mK) tv k (js ++ [i2]), 1000000000, none⟩ = σ9 at gq4 gv4 gu4 ⊢
        clear gq gv gu hltq
        have hlo := hmi.lo e (List.mem_of_getElem? he)
        have hce := cnt_at hmi.nd he
        have hmem : e.1 ∈ Eo.map (·.1) := (cnt_pos hmo e.1).2 (by rw [← hcnt e.1, hce]; exact hlo.1)
        obtain ⟨e2, he2, hee⟩ := List.mem_map.1 hmem
        obtain ⟨i3, hi3⟩ := List.mem_iff_getElem?.1 he2
        have hce2 := cnt_at hmo.nd hi3
        have hval : e2.2.1 = e.2.1 := by rw [← hce2, hee, ← hcnt e.1, hce]
        have hel3 : (Eo.map mK)[i3]? = some [.sc (.string (strOfNums e.1)), .sc (.int .i64 e.2.1), .sc (.int .i64 (e2.2.2 : Nat))] := by rw [List.getElem?_map, hi3]; simp [mK, hee, hval]
        obtain ⟨lk, hlk⟩ := str_key e.1 (hmi.len e (List.mem_of_getElem? he))
        repeat (first | (with_reducible first | refine AW.seq ?_ | refine AW.block ?_ | refine AW.skip ?_ | refine AW.ret ?_ | refine AW.exit ?_ | refine AW.reg hT ?_) | ((with_reducible refine AW.cond_true ?_ ?_); · (simp (maxSteps := 3000000) (maxDischargeDepth := 12) only [seval,push_cast,appendX,dcw1,dcw2,dcml,dcml2,dcn1]; done)) | ((with_reducible refine AW.cond_false ?_ ?_); · (simp (maxSteps := 3000000) (maxDischargeDepth := 12) only [seval,push_cast,appendX,dcw1,dcw2,dcml,dcml2,dcn1]; done)) | simp (maxSteps := 3000000) (maxDischargeDepth := 12) only [seval,push_cast,appendX,Try.results5,dcw1,dcw2,dcml,dcml2,dcn1])
        refine AOpsL.rule hT rfl (AOp.entry (js := js) (i := i2) (q := q) (t := tv) (k := k) hT rfl (ty := 55) (by decide) rfl gq4 gv4 hel ?_)
        repeat (first | (with_reducible first | refine AW.seq ?_ | refine AW.block ?_ | refine AW.skip ?_ | refine AW.ret ?_ | refine AW.exit ?_ | refine AW.reg hT ?_) | ((with_reducible refine AW.cond_true ?_ ?_); · (simp (maxSteps := 3000000) (maxDischargeDepth := 12) only [seval,push_cast,appendX,dcw1,dcw2,dcml,dcml2,dcn1]; done)) | ((with_reducible refine AW.cond_false ?_ ?_); · (simp (maxSteps := 3000000) (maxDischargeDepth := 12) only [seval,push_cast,appendX,dcw1,dcw2,dcml,dcml2,dcn1]; done)) | simp (maxSteps := 3000000) (maxDischargeDepth := 12) only [seval,push_cast,appendX,Try.results5,dcw1,dcw2,dcml,dcml2,dcn1])
        refine AOpsL.rule hT rfl (AOp.lookup_hit (v0 := .string (strOfNums e.1)) (els := Eo.map mK) (i := i3) hT rfl rfl (by decide) str_law rfl rfl gu4 rfl hlk hel3 rfl ?_)
        repeat (first | (with_reducible first | refine AW.seq ?_ | refine AW.block ?_ | refine AW.skip ?_ | refine AW.ret ?_ | refine AW.exit ?_ | refine AW.reg hT ?_) | ((with_reducible refine AW.cond_true ?_ ?_); · (simp (maxSteps := 3000000) (maxDischargeDepth := 12) only [seval,push_cast,appendX,dcw1,dcw2,dcml,dcml2,dcn1]; done)) | ((with_reducible refine AW.cond_false ?_ ?_); · (simp (maxSteps := 3000000) (maxDischargeDepth := 12) only [seval,push_cast,appendX,dcw1,dcw2,dcml,dcml2,dcn1]; done)) | simp (maxSteps := 3000000) (maxDischargeDepth := 12) only [seval,push_cast,appendX,Try.results5,dcw1,dcw2,dcml,dcml2,dcn1])
        refine ⟨Ei.length + 1 - (js.length + 1), by omega, js ++ [i2], by simp, ?_, ?_, gq4, gv4, gu4, by (simp only [push_cast, TellsL, tells_any, tells_refl])⟩
        · rw [List.nodup_append]
          exact ⟨hnd, by simp, fun a ha b hb => by simp at hb; subst hb; rintro rfl; exact hni ha⟩
        · intro j hj
          rcases List.mem_append.1 hj with hj | hj
          · exact hjl j hj
          · simp at hj; subst hj; exact hie
      · have hall : ∀ i, i < (Ei.map mK).length → i ∈ js := fun i hi => Decidable.byContradiction (fun hn => hs ⟨i, hi, hn⟩)
        repeat (first | (with_reducible first | refine AW.seq ?_ | refine AW.block ?_ | refine AW.skip ?_ | refine AW.ret ?_ | refine AW.exit ?_ | refine AW.reg hT ?_) | ((with_reducible refine AW.cond_true ?_ ?_); · (simp (maxSteps := 3000000) (maxDischargeDepth := 12) only [seval,push_cast,appendX,dcw1,dcw2,dcml,dcml2,dcn1]; done)) | ((with_reducible refine AW.cond_false ?_ ?_); · (simp (maxSteps := 3000000) (maxDischargeDepth := 12) only [seval,push_cast,appendX,dcw1,dcw2,dcml,dcml2,dcn1]; done)) | simp (maxSteps := 3000000) (maxDischargeDepth := 12) only [seval,push_cast,appendX,Try.results5,dcw1,dcw2,dcml,dcml2,dcn1])
        refine AOpsL.rule hT rfl (AOp.next_over (t := tv) (k := k) (js := js) (q := q) hT rfl (ty := 55) (by decide) rfl gq gv hjl' hall ?_)
        repeat ((fail_if_success (with_reducible refine AW.at1 (id := 35) ?_)); (fail_if_success (with_reducible refine AW.at2 (id := 35) ?_)); first | (with_reducible first | refine AW.seq ?_ | refine AW.block ?_ | refine AW.skip ?_ | refine AW.ret ?_ | refine AW.exit ?_ | refine AW.reg hT ?_) | ((with_reducible refine AW.cond_true ?_ ?_); · (simp (maxSteps := 3000000) (maxDischargeDepth := 12) only [seval,push_cast,appendX,dcw1,dcw2,dcml,dcml2,dcn1]; done)) | ((with_reducible refine AW.cond_false ?_ ?_); · (simp (maxSteps := 3000000) (maxDischargeDepth := 12) only [seval,push_cast,appendX,dcw1,dcw2,dcml,dcml2,dcn1]; done)) | simp (maxSteps := 3000000) (maxDischargeDepth := 12) only [seval,push_cast,appendX,Try.results5,dcw1,dcw2,dcml,dcml2,dcn1])
        refine AW.unclock (t := tv) (k := k) gv (by decide) ?_
        have gv5 : (σ8.set tv ⟨Ei.map mK, 55, none⟩).get tv = some ⟨Ei.map mK, 55, none⟩ := Heap.get_set (Heap.lt gv)
        have gu5 : (σ8.set tv ⟨Ei.map mK, 55, none⟩).get tu = some ⟨Eo.map mK, 55, none⟩ := by rw [Heap.get_set_ne hne]; exact gu
        generalize σ8.set tv ⟨Ei.map mK, 55, none⟩ = σ9 at gv5 gu5 ⊢
        clear gv gu gq
        have dcE1 : (Ei.map mK).length = Ei.length := by simp
        have dcE2 : (Eo.map mK).length = Ei.length := by simp [hlen]
        repeat (first | (with_reducible first | refine AW.seq ?_ | refine AW.block ?_ | refine AW.skip ?_ | refine AW.ret ?_ | refine AW.exit ?_ | refine AW.reg hT ?_) | ((with_reducible refine AW.cond_true ?_ ?_); · (simp (maxSteps := 3000000) (maxDischargeDepth := 12) only [seval,push_cast,appendX,dcw1,dcw2,dcml,dcml2,dcn1,dcE1,dcE2]; done)) | ((with_reducible refine AW.cond_false ?_ ?_); · (simp (maxSteps := 3000000) (maxDischargeDepth := 12) only [seval,push_cast,appendX,dcw1,dcw2,dcml,dcml2,dcn1,dcE1,dcE2]; done)) | simp (maxSteps := 3000000) (maxDischargeDepth := 12) only [seval,push_cast,appendX,Try.results5,dcw1,dcw2,dcml,dcml2,dcn1,dcE1,dcE2])
        refine AOpsL.rule hT rfl (AOp.lenMap (els := Eo.map mK) hT rfl rfl (by decide) rfl gu5 ?_)
        repeat (first | (with_reducible first | refine AW.seq ?_ | refine AW.block ?_ | refine AW.skip ?_ | refine AW.ret ?_ | refine AW.exit ?_ | refine AW.reg hT ?_) | ((with_reducible refine AW.cond_true ?_ ?_); · (simp (maxSteps := 3000000) (maxDischargeDepth := 12) only [seval,push_cast,appendX,dcw1,dcw2,dcml,dcml2,dcn1,dcE1,dcE2]; done)) | ((with_reducible refine AW.cond_false ?_ ?_); · (simp (maxSteps := 3000000) (maxDischargeDepth := 12) only [seval,push_cast,appendX,dcw1,dcw2,dcml,dcml2,dcn1,dcE1,dcE2]; done)) | simp (maxSteps := 3000000) (maxDischargeDepth := 12) only [seval,push_cast,appendX,Try.results5,dcw1,dcw2,dcml,dcml2,dcn1,dcE1,dcE2])
        refine AOpsL.rule hT rfl (AOp.lenMap (els := Ei.map mK) hT rfl rfl (by decide) rfl gv5 ?_)
        repeat (first | (with_reducible first | refine AW.seq ?_ | refine AW.block ?_ | refine AW.skip ?_ | refine AW.ret ?_ | refine AW.exit ?_ | refine AW.reg hT ?_) | ((with_reducible refine AW.cond_true ?_ ?_); · (simp (maxSteps := 3000000) (maxDischargeDepth := 12) only [seval,push_cast,appendX,dcw1,dcw2,dcml,dcml2,dcn1,dcE1,dcE2]; done)) | ((with_reducible refine AW.cond_false ?_ ?_); · (simp (maxSteps := 3000000) (maxDischargeDepth := 12) only [seval,push_cast,appendX,dcw1,dcw2,dcml,dcml2,dcn1,dcE1,dcE2]; done)) | simp (maxSteps := 3000000) (maxDischargeDepth := 12) only [seval,push_cast,appendX,Try.results5,dcw1,dcw2,dcml,dcml2,dcn1,dcE1,dcE2])
  repeat (first | (with_reducible first | refine AW.seq ?_ | refine AW.block ?_ | refine AW.skip ?_ | refine AW.ret ?_ | refine AW.exit ?_ | refine AW.reg hT ?_) | ((with_reducible refine AW.cond_true ?_ ?_); · (simp (maxSteps := 3000000) (maxDischargeDepth := 12) only [seval,push_cast,appendX,dcw1,dcw2,dcml]; done)) | ((with_reducible refine AW.cond_false ?_ ?_); · (simp (maxSteps := 3000000) (maxDischargeDepth := 12) only [seval,push_cast,appendX,dcw1,dcw2,dcml]; done)) | simp (maxSteps := 3000000) (maxDischargeDepth := 12) only [seval,push_cast,appendX,Try.results5,dcw1,dcw2,dcml])
  refine AW.loop (keptI l R p tv tu) (m := 601) ⟨0, [p], ⟨R, [], 0⟩, [], [], rfl, Nat.zero_le _, by decide, k0, by (simp only [push_cast, TellsL, tells_any, tells_refl])⟩ ?_
  clear k0
  rintro m ts σ4 ⟨i, fp, w, Ei, Eo, rfl, hil, hi6, hK, hts⟩
  refine AW.told hts ?_
  clear hts
  have hok := hK.hin.ok (by omega) hi6
  by_cases hlt : i < l.length ∧ i < 600
  · have dce1 : decide ((i : Int) < (l.length : Int)) = true := by simp; omega
    have dce2 : decide ((i : Int) < 600) = true := by simp; omega
    obtain ⟨x, hx⟩ : ∃ x, x = l[i] := ⟨_, rfl⟩
    have hel : (l.map eAc)[i]? = some (eAc x) := by rw [List.getElem?_map, List.getElem?_eq_getElem hlt.1, hx]; rfl
    rw [eAc_eq] at hel
    have dcel := hel
    have dca1 : ((0 : Int) ≤ (i : Int)) = True := by simp
    have dca2 : ((i : Int) < (l.length : Int)) = True := by simp; omega
    have hic : (((i + 1 : Nat)) : Int) = (i : Int) + 1 := by omega
    have dcwr : IntKind.i64.wrap ((i : Int) + 1) = (i : Int) + 1 := wrap_i64 (by omega) (by omega)
    have dcl1 : IntKind.u8.wrap (i : Int) = (i : Int) % 256 := wrap_u8_mod _
    have dcl2 : IntKind.u8.wrap ((i : Int).fdiv (2 ^ min 8 64)) = (i : Int) / 256 := by
      rw [Int.fdiv_eq_ediv_of_nonneg _ (by decide), wrap_u8_mod]
      show (i : Int) / 256 % 256 = _
      omega
    repeat ((fail_if_success (with_reducible refine AW.at1 (id := 12) ?_)); (fail_if_success (with_reducible refine AW.at2 (id := 12) ?_)); first | (with_reducible first | refine AW.seq ?_ | refine AW.block ?_ | refine AW.skip ?_ | refine AW.ret ?_ | refine AW.exit ?_ | refine AW.reg hT ?_) | ((with_reducible refine AW.cond_true ?_ ?_); · (simp (maxSteps := 3000000) (maxDischargeDepth := 12) only [seval,push_cast,appendX,dcw1,dcw2,dcml,dce1,dce2,dcel,dca1,dca2,dcwr,dcl1,dcl2]; done)) | ((with_reducible refine AW.cond_false ?_ ?_); · (simp (maxSteps := 3000000) (maxDischargeDepth := 12) only [seval,push_cast,appendX,dcw1,dcw2,dcml,dce1,dce2,dcel,dca1,dca2,dcwr,dcl1,dcl2]; done)) | simp (maxSteps := 3000000) (maxDischargeDepth := 12) only [seval,push_cast,appendX,Try.results5,dcw1,dcw2,dcml,dce1,dce2,dcel,dca1,dca2,dcwr,dcl1,dcl2])
    refine AW.name (fun σ5 hσ5 => ?_)
    have ga5 : σ5.get σ4.n = some ⟨[[.sc (.int .u8 x.f0), .sc (.int .i64 x.f1.f0), .sc (.int .i64 x.f1.f1), .sc (.int .i64 x.f1.f2), .sl (σ4.n + 1) 0 2 2, .sc (.int .i64 x.f2)]], 43, true⟩ := by subst hσ5; simp (maxSteps := 3000000) (maxDischargeDepth := 12) only [push_cast, appendX, Nat.reduceAdd, Nat.reduceEqDiff, Nat.reduceLT, Nat.reduceLeDiff, reduceIte, reduceCtorEq, dcw1, dcw2, dcml, dce1, dce2, dcel, dca1, dca2, dcwr, dcl1, dcl2]
    have gb5 : σ5.get (σ4.n + 1) = some ⟨bytesD (lab i), 5, true⟩ := by subst hσ5; simp (maxSteps := 3000000) (maxDischargeDepth := 12) only [push_cast, appendX, Nat.reduceAdd, Nat.reduceEqDiff, Nat.reduceLT, Nat.reduceLeDiff, reduceIte, reduceCtorEq, lab, bytesD, List.map_cons, List.map_nil, dcw1, dcw2, dcml, dce1, dce2, dcel, dca1, dca2, dcwr, dcl1, dcl2]
    have x45 : Ext [] σ4 σ5 := by subst hσ5; repeat (first | exact Ext.refl _ _ | assumption | refine Ext.push ?_ _ | ((refine Ext.set ?_ ?_ _); rotate_left; · (simp (maxSteps := 3000000) (maxDischargeDepth := 12) only [push_cast, appendX, Nat.reduceAdd, Nat.reduceEqDiff, Nat.reduceLT, Nat.reduceLeDiff, reduceIte, reduceCtorEq, dcw1, dcw2, dcml, dce1, dce2, dcel, dca1, dca2, dcwr, dcl1, dcl2])) | ((refine Ext.then1 (by assumption) ?_ ?_); rotate_left; · (intro p hp _; first | assumption | exact List.mem_cons_of_mem _ hp | (cases hp; done) | (simp at hp; subst hp; simp))))
    clear hσ5
    obtain ⟨pa, hpa⟩ : ∃ q, q = σ4.n := ⟨_, rfl⟩
    rw [← hpa] at ga5 gb5
    rw [← hpa]
    refine AW.holdCell (pre := [.sc (.int .u8 x.f0), .sc (.int .i64 x.f1.f0), .sc (.int .i64 x.f1.f1), .sc (.int .i64 x.f1.f2)]) (post := [.sc (.int .i64 x.f2)]) (Hold.rowN gb5 rfl) ga5 (by simp [tOf]) ?_
    intro σ6 x56 ga6
    have x46 : Ext [] σ4 σ6 := x45.then x56 (fun q hq hl => by simp [tOf] at hq; omega)
    have hK6 := hK.frame x46
    clear x45 x56 ga5 gb5 hK x46
    have gta6 := ga6
    have hlo : Octs (lab i) := lab_octs hi6
    have hll : (lab i).length ≤ 1000000 := by simp [lab]
    have hB : (0 : Int) ≤ (i : Int) ∧ (i : Int) ≤ 1000000 := by omega
    have hin := hK6.hin
    by_cases k0 : x.f0.tmod 3 = 0
    · have dc0 : (x.f0.tmod 3 == 0) = true := by simpa using k0
      repeat (first | (with_reducible first | refine AW.seq ?_ | refine AW.block ?_ | refine AW.skip ?_ | refine AW.ret ?_ | refine AW.exit ?_ | refine AW.reg hT ?_) | ((with_reducible refine AW.cond_true ?_ ?_); · (simp (maxSteps := 3000000) (maxDischargeDepth := 12) only [seval,push_cast,appendX,dcw1,dcw2,dcml,dce1,dce2,dcel,dca1,dca2,dcwr,dcl1,dcl2,gta6,Heap.lt gta6,dc0]; done)) | ((with_reducible refine AW.cond_false ?_ ?_); · (simp (maxSteps := 3000000) (maxDischargeDepth := 12) only [seval,push_cast,appendX,dcw1,dcw2,dcml,dce1,dce2,dcel,dca1,dca2,dcwr,dcl1,dcl2,gta6,Heap.lt gta6,dc0]; done)) | simp (maxSteps := 3000000) (maxDischargeDepth := 12) only [seval,push_cast,appendX,Try.results5,dcw1,dcw2,dcml,dce1,dce2,dcel,dca1,dca2,dcwr,dcl1,dcl2,gta6,Heap.lt gta6,dc0])
      refine AOpsL.call (first := []) (cap := []) hT rfl rfl rfl fn10 rfl (ACalls.mono (theirs_ok _ ⟨x.f1.f0, x.f1.f1, x.f1.f2, lab i⟩) ?_)
      rintro y σ7 ⟨rfl, xt7⟩
      have hK7 := hK6.frame xt7
      have gta7 := xt7.get ga6 (by simp)
      repeat (first | (with_reducible first | refine AW.seq ?_ | refine AW.block ?_ | refine AW.skip ?_ | refine AW.ret ?_ | refine AW.exit ?_ | refine AW.reg hT ?_) | ((with_reducible refine AW.cond_true ?_ ?_); · (simp (maxSteps := 3000000) (maxDischargeDepth := 12) only [seval,push_cast,appendX,dcw1,dcw2,dcml,dce1,dce2,dcel,dca1,dca2,dcwr,dcl1,dcl2,gta6,Heap.lt gta6,dc0,xt7.2,xt7.ltT,xt7.leT,gta7,Heap.lt gta7]; done)) | ((with_reducible refine AW.cond_false ?_ ?_); · (simp (maxSteps := 3000000) (maxDischargeDepth := 12) only [seval,push_cast,appendX,dcw1,dcw2,dcml,dce1,dce2,dcel,dca1,dca2,dcwr,dcl1,dcl2,gta6,Heap.lt gta6,dc0,xt7.2,xt7.ltT,xt7.leT,gta7,Heap.lt gta7]; done)) | simp (maxSteps := 3000000) (maxDischargeDepth := 12) only [seval,push_cast,appendX,Try.results5,dcw1,dcw2,dcml,dce1,dce2,dcel,dca1,dca2,dcwr,dcl1,dcl2,gta6,Heap.lt gta6,dc0,xt7.2,xt7.ltT,xt7.leT,gta7,Heap.lt gta7])
      refine AOpsL.call (first := []) (cap := []) hT rfl rfl rfl fn9 rfl (ACalls.mono (send_ok _ ⟨x.f1.f0, x.f1.f1, x.f1.f2, lab i⟩ hK7.hw hok) ?_)
      rintro y σ8 ⟨rfl, fp8, hw8, hg8⟩
      have hin8 := hin.send ⟨x.f1.f0, x.f1.f1, x.f1.f2, lab i⟩
      have hpf : pa ∉ fp := fun hm => by
        have h1 := hK7.hw
        obtain ⟨dw, rfl, hp, hh⟩ := h1
        rcases List.mem_cons.1 hm with rfl | hm
        · rw [hp] at gta7; simp [WObj] at gta7
        · exact hh.ne gta7 (by simp) hm
      have gta8 := hg8.1.get gta7 hpf
      rcases send_cases w ⟨x.f1.f0, x.f1.f1, x.f1.f2, lab i⟩ with ⟨he, hl8⟩ | ⟨he, hl8⟩
      · have dce : ((w.send ⟨x.f1.f0, x.f1.f1, x.f1.f2, lab i⟩).2 == 0) = false := by simpa using he
        repeat (first | (with_reducible first | refine AW.seq ?_ | refine AW.block ?_ | refine AW.skip ?_ | refine AW.ret ?_ | refine AW.exit ?_ | refine AW.reg hT ?_) | ((with_reducible refine AW.cond_true ?_ ?_); · (simp (maxSteps := 3000000) (maxDischargeDepth := 12) only [seval,push_cast,appendX,dcw1,dcw2,dcml,dce1,dce2,dcel,dca1,dca2,dcwr,dcl1,dcl2,gta6,Heap.lt gta6,dc0,xt7.2,xt7.ltT,xt7.leT,gta7,Heap.lt gta7,gta8,Heap.lt gta8,dce]; done)) | ((with_reducible refine AW.cond_false ?_ ?_); · (simp (maxSteps := 3000000) (maxDischargeDepth := 12) only [seval,push_cast,appendX,dcw1,dcw2,dcml,dce1,dce2,dcel,dca1,dca2,dcwr,dcl1,dcl2,gta6,Heap.lt gta6,dc0,xt7.2,xt7.ltT,xt7.leT,gta7,Heap.lt gta7,gta8,Heap.lt gta8,dce]; done)) | simp (maxSteps := 3000000) (maxDischargeDepth := 12) only [seval,push_cast,appendX,Try.results5,dcw1,dcw2,dcml,dce1,dce2,dcel,dca1,dca2,dcwr,dcl1,dcl2,gta6,Heap.lt gta6,dc0,xt7.2,xt7.ltT,xt7.leT,gta7,Heap.lt gta7,gta8,Heap.lt gta8,dce])
        exact ⟨601 - (i + 1), by omega, i + 1, fp8, _, Ei, Eo, rfl, hlt.1, hlt.2, hK7.same hw8 hg8 hin8 hl8, by (simp only [push_cast, TellsL, tells_any, tells_refl, hic])⟩
      · have dce : ((w.send ⟨x.f1.f0, x.f1.f1, x.f1.f2, lab i⟩).2 == 0) = true := by simpa using he
        have hgi := hg8.1.get hK7.gi (hK7.hw.sepM hK7.gi)
        repeat (first | (with_reducible first | refine AW.seq ?_ | refine AW.block ?_ | refine AW.skip ?_ | refine AW.ret ?_ | refine AW.exit ?_ | refine AW.reg hT ?_) | ((with_reducible refine AW.cond_true ?_ ?_); · (simp (maxSteps := 3000000) (maxDischargeDepth := 12) only [seval,push_cast,appendX,dcw1,dcw2,dcml,dce1,dce2,dcel,dca1,dca2,dcwr,dcl1,dcl2,gta6,Heap.lt gta6,dc0,xt7.2,xt7.ltT,xt7.leT,gta7,Heap.lt gta7,gta8,Heap.lt gta8,dce]; done)) | ((with_reducible refine AW.cond_false ?_ ?_); · (simp (maxSteps := 3000000) (maxDischargeDepth := 12) only [seval,push_cast,appendX,dcw1,dcw2,dcml,dce1,dce2,dcel,dca1,dca2,dcwr,dcl1,dcl2,gta6,Heap.lt gta6,dc0,xt7.2,xt7.ltT,xt7.leT,gta7,Heap.lt gta7,gta8,Heap.lt gta8,dce]; done)) | simp (maxSteps := 3000000) (maxDischargeDepth := 12) only [seval,push_cast,appendX,Try.results5,dcw1,dcw2,dcml,dce1,dce2,dcel,dca1,dca2,dcwr,dcl1,dcl2,gta6,Heap.lt gta6,dc0,xt7.2,xt7.ltT,xt7.leT,gta7,Heap.lt gta7,gta8,Heap.lt gta8,dce])
        refine AOpsL.bump (t := tv) (E := Ei) (k := lab i) rfl rfl rfl rfl rfl rfl rfl rfl rfl rfl rfl (fun v => rfl) (fun v w => ⟨rfl, rfl, rfl⟩) hgi hK7.mi hB hlo hll ?_
        intro E' v1 v2 hm hc
        refine AOpsL.nil ?_
        repeat (first | (with_reducible first | refine AW.seq ?_ | refine AW.block ?_ | refine AW.skip ?_ | refine AW.ret ?_ | refine AW.exit ?_ | refine AW.reg hT ?_) | ((with_reducible refine AW.cond_true ?_ ?_); · (simp (maxSteps := 3000000) (maxDischargeDepth := 12) only [seval,push_cast,appendX,dcw1,dcw2,dcml,dce1,dce2,dcel,dca1,dca2,dcwr,dcl1,dcl2,gta6,Heap.lt gta6,dc0,xt7.2,xt7.ltT,xt7.leT,gta7,Heap.lt gta7,gta8,Heap.lt gta8,dce]; done)) | ((with_reducible refine AW.cond_false ?_ ?_); · (simp (maxSteps := 3000000) (maxDischargeDepth := 12) only [seval,push_cast,appendX,dcw1,dcw2,dcml,dce1,dce2,dcel,dca1,dca2,dcwr,dcl1,dcl2,gta6,Heap.lt gta6,dc0,xt7.2,xt7.ltT,xt7.leT,gta7,Heap.lt gta7,gta8,Heap.lt gta8,dce]; done)) | simp (maxSteps := 3000000) (maxDischargeDepth := 12) only [seval,push_cast,appendX,Try.results5,dcw1,dcw2,dcml,dce1,dce2,dcel,dca1,dca2,dcwr,dcl1,dcl2,gta6,Heap.lt gta6,dc0,xt7.2,xt7.ltT,xt7.leT,gta7,Heap.lt gta7,gta8,Heap.lt gta8,dce])
        exact ⟨601 - (i + 1), by omega, i + 1, fp8, _, E', Eo, rfl, hlt.1, hlt.2, hK7.more hw8 hg8 hin8 hl8 hlo hm hc, by (simp only [push_cast, TellsL, tells_any, tells_refl, hic])⟩
    · have dc0 : (x.f0.tmod 3 == 0) = false := by simpa using k0
      by_cases k1 : x.f0.tmod 3 = 1
      · have dc1 : (x.f0.tmod 3 == 1) = true := by simpa using k1
        repeat (first | (with_reducible first | refine AW.seq ?_ | refine AW.block ?_ | refine AW.skip ?_ | refine AW.ret ?_ | refine AW.exit ?_ | refine AW.reg hT ?_) | ((with_reducible refine AW.cond_true ?_ ?_); · (simp (maxSteps := 3000000) (maxDischargeDepth := 12) only [seval,push_cast,appendX,dcw1,dcw2,dcml,dce1,dce2,dcel,dca1,dca2,dcwr,dcl1,dcl2,gta6,Heap.lt gta6,dc0,dc1]; done)) | ((with_reducible refine AW.cond_false ?_ ?_); · (simp (maxSteps := 3000000) (maxDischargeDepth := 12) only [seval,push_cast,appendX,dcw1,dcw2,dcml,dce1,dce2,dcel,dca1,dca2,dcwr,dcl1,dcl2,gta6,Heap.lt gta6,dc0,dc1]; done)) | simp (maxSteps := 3000000) (maxDischargeDepth := 12) only [seval,push_cast,appendX,Try.results5,dcw1,dcw2,dcml,dce1,dce2,dcel,dca1,dca2,dcwr,dcl1,dcl2,gta6,Heap.lt gta6,dc0,dc1])
        refine AOpsL.call (first := []) (cap := []) hT rfl rfl rfl fn11 rfl (ACalls.mono (take_ok _ x.f2 trivial hK6.hw hok) ?_)
        rintro y σ7 ⟨rfl, fp7, hw7, hg7⟩
        have hin7 := hin.take x.f2
        rcases take_cases w x.f2 with ⟨he, hl7, hz⟩ | ⟨he, hk, hl7⟩
        · have dce : ((w.take x.f2).2.2 == 0) = false := by simpa using he
          repeat (first | (with_reducible first | refine AW.seq ?_ | refine AW.block ?_ | refine AW.skip ?_ | refine AW.ret ?_ | refine AW.exit ?_ | refine AW.reg hT ?_) | ((with_reducible refine AW.cond_true ?_ ?_); · (simp (maxSteps := 3000000) (maxDischargeDepth := 12) only [seval,push_cast,appendX,dcw1,dcw2,dcml,dce1,dce2,dcel,dca1,dca2,dcwr,dcl1,dcl2,gta6,Heap.lt gta6,dc0,dc1,dce]; done)) | ((with_reducible refine AW.cond_false ?_ ?_); · (simp (maxSteps := 3000000) (maxDischargeDepth := 12) only [seval,push_cast,appendX,dcw1,dcw2,dcml,dce1,dce2,dcel,dca1,dca2,dcwr,dcl1,dcl2,gta6,Heap.lt gta6,dc0,dc1,dce]; done)) | simp (maxSteps := 3000000) (maxDischargeDepth := 12) only [seval,push_cast,appendX,Try.results5,eN_eq,dcw1,dcw2,dcml,dce1,dce2,dcel,dca1,dca2,dcwr,dcl1,dcl2,gta6,Heap.lt gta6,dc0,dc1,dce])
          exact ⟨601 - (i + 1), by omega, i + 1, fp7, _, Ei, Eo, rfl, hlt.1, hlt.2, (hK6.same hw7 hg7 hin7 hl7).frame (by repeat (first | exact Ext.refl _ _ | assumption | refine Ext.push ?_ _ | ((refine Ext.set ?_ ?_ _); rotate_left; · (simp (maxSteps := 3000000) (maxDischargeDepth := 12) only [push_cast, appendX, Nat.reduceAdd, Nat.reduceEqDiff, Nat.reduceLT, Nat.reduceLeDiff, reduceIte, reduceCtorEq, dcw1, dcw2, dcml, dce1, dce2, dcel, dca1, dca2, dcwr, dcl1, dcl2, gta6, Heap.lt gta6, dc0, dc1, dce])) | ((refine Ext.then1 (by assumption) ?_ ?_); rotate_left; · (intro p hp _; first | assumption | exact List.mem_cons_of_mem _ hp | (cases hp; done) | (simp at hp; subst hp; simp))))), by (simp only [push_cast, TellsL, tells_any, tells_refl, hic])⟩
        · have dce : ((w.take x.f2).2.2 == 0) = true := by simpa using he
          have hgo := hg7.1.get hK6.go (hK6.hw.sepM hK6.go)
          have hob := hK6.ob _ (List.mem_of_getElem? hk)
          have hlb : (w.take x.f2).2.1.f3.length ≤ 1000000 := by have := hin.bytes _ (List.mem_of_getElem? hk); omega
          repeat ((fail_if_success (with_reducible refine AW.at1 (id := 23) ?_)); (fail_if_success (with_reducible refine AW.at2 (id := 23) ?_)); first | (with_reducible first | refine AW.seq ?_ | refine AW.block ?_ | refine AW.skip ?_ | refine AW.ret ?_ | refine AW.exit ?_ | refine AW.reg hT ?_) | ((with_reducible refine AW.cond_true ?_ ?_); · (simp (maxSteps := 3000000) (maxDischargeDepth := 12) only [seval,push_cast,appendX,dcw1,dcw2,dcml,dce1,dce2,dcel,dca1,dca2,dcwr,dcl1,dcl2,gta6,Heap.lt gta6,dc0,dc1,dce]; done)) | ((with_reducible refine AW.cond_false ?_ ?_); · (simp (maxSteps := 3000000) (maxDischargeDepth := 12) only [seval,push_cast,appendX,dcw1,dcw2,dcml,dce1,dce2,dcel,dca1,dca2,dcwr,dcl1,dcl2,gta6,Heap.lt gta6,dc0,dc1,dce]; done)) | simp (maxSteps := 3000000) (maxDischargeDepth := 12) only [seval,push_cast,appendX,Try.results5,eN_eq,dcw1,dcw2,dcml,dce1,dce2,dcel,dca1,dca2,dcwr,dcl1,dcl2,gta6,Heap.lt gta6,dc0,dc1,dce])
          refine AW.name (fun σ8 hσ8 => ?_)
          have x78 : Ext [] σ7 σ8 := by subst hσ8; repeat (first | exact Ext.refl _ _ | assumption | refine Ext.push ?_ _ | ((refine Ext.set ?_ ?_ _); rotate_left; · (simp (maxSteps := 3000000) (maxDischargeDepth := 12) only [push_cast, appendX, Nat.reduceAdd, Nat.reduceEqDiff, Nat.reduceLT, Nat.reduceLeDiff, reduceIte, reduceCtorEq, dcw1, dcw2, dcml, dce1, dce2, dcel, dca1, dca2, dcwr, dcl1, dcl2, gta6, Heap.lt gta6, dc0, dc1, dce])) | ((refine Ext.then1 (by assumption) ?_ ?_); rotate_left; · (intro p hp _; first | assumption | exact List.mem_cons_of_mem _ hp | (cases hp; done) | (simp at hp; subst hp; simp))))
          have gtn8 : σ8.get σ7.n = some ⟨[[.sc (.int .i64 (w.take x.f2).2.1.f0), .sc (.int .i64 (w.take x.f2).2.1.f1), .sc (.int .i64 (w.take x.f2).2.1.f2), .imm (bytesD (w.take x.f2).2.1.f3)]], 31, true⟩ := by subst hσ8; simp (maxSteps := 3000000) (maxDischargeDepth := 12) only [push_cast, appendX, Nat.reduceAdd, Nat.reduceEqDiff, Nat.reduceLT, Nat.reduceLeDiff, reduceIte, reduceCtorEq, dcw1, dcw2, dcml, dce1, dce2, dcel, dca1, dca2, dcwr, dcl1, dcl2, gta6, Heap.lt gta6, dc0, dc1, dce]
          clear hσ8
          repeat (first | (with_reducible first | refine AW.seq ?_ | refine AW.block ?_ | refine AW.skip ?_ | refine AW.ret ?_ | refine AW.exit ?_ | refine AW.reg hT ?_) | ((with_reducible refine AW.cond_true ?_ ?_); · (simp (maxSteps := 3000000) (maxDischargeDepth := 12) only [seval,push_cast,appendX,dcw1,dcw2,dcml,dce1,dce2,dcel,dca1,dca2,dcwr,dcl1,dcl2,gta6,Heap.lt gta6,dc0,dc1,dce,gtn8,Heap.lt gtn8]; done)) | ((with_reducible refine AW.cond_false ?_ ?_); · (simp (maxSteps := 3000000) (maxDischargeDepth := 12) only [seval,push_cast,appendX,dcw1,dcw2,dcml,dce1,dce2,dcel,dca1,dca2,dcwr,dcl1,dcl2,gta6,Heap.lt gta6,dc0,dc1,dce,gtn8,Heap.lt gtn8]; done)) | simp (maxSteps := 3000000) (maxDischargeDepth := 12) only [seval,push_cast,appendX,Try.results5,dcw1,dcw2,dcml,dce1,dce2,dcel,dca1,dca2,dcwr,dcl1,dcl2,gta6,Heap.lt gta6,dc0,dc1,dce,gtn8,Heap.lt gtn8])
          refine AOpsL.bump (t := tu) (E := Eo) (k := (w.take x.f2).2.1.f3) rfl rfl rfl rfl rfl rfl rfl rfl rfl rfl rfl (fun v => rfl) (fun v w => ⟨rfl, rfl, rfl⟩) (x78.get hgo (by simp)) hK6.mo hB hob hlb ?_
          intro E' v1 v2 hm hc
          refine AOpsL.nil ?_
          repeat (first | (with_reducible first | refine AW.seq ?_ | refine AW.block ?_ | refine AW.skip ?_ | refine AW.ret ?_ | refine AW.exit ?_ | refine AW.reg hT ?_) | ((with_reducible refine AW.cond_true ?_ ?_); · (simp (maxSteps := 3000000) (maxDischargeDepth := 12) only [seval,push_cast,appendX,dcw1,dcw2,dcml,dce1,dce2,dcel,dca1,dca2,dcwr,dcl1,dcl2,gta6,Heap.lt gta6,dc0,dc1,dce,gtn8,Heap.lt gtn8]; done)) | ((with_reducible refine AW.cond_false ?_ ?_); · (simp (maxSteps := 3000000) (maxDischargeDepth := 12) only [seval,push_cast,appendX,dcw1,dcw2,dcml,dce1,dce2,dcel,dca1,dca2,dcwr,dcl1,dcl2,gta6,Heap.lt gta6,dc0,dc1,dce,gtn8,Heap.lt gtn8]; done)) | simp (maxSteps := 3000000) (maxDischargeDepth := 12) only [seval,push_cast,appendX,Try.results5,dcw1,dcw2,dcml,dce1,dce2,dcel,dca1,dca2,dcwr,dcl1,dcl2,gta6,Heap.lt gta6,dc0,dc1,dce,gtn8,Heap.lt gtn8])
          exact ⟨601 - (i + 1), by omega, i + 1, fp7, _, Ei, E', rfl, hlt.1, hlt.2, hK6.less (hw7.frame x78 (by simp)) (hg7.ext x78) hin7 hk hl7 hm hc, by (simp only [push_cast, TellsL, tells_any, tells_refl, hic])⟩
      · have dc1 : (x.f0.tmod 3 == 1) = false := by simpa using k1
        repeat (first | (with_reducible first | refine AW.seq ?_ | refine AW.block ?_ | refine AW.skip ?_ | refine AW.ret ?_ | refine AW.exit ?_ | refine AW.reg hT ?_) | ((with_reducible refine AW.cond_true ?_ ?_); · (simp (maxSteps := 3000000) (maxDischargeDepth := 12) only [seval,push_cast,appendX,dcw1,dcw2,dcml,dce1,dce2,dcel,dca1,dca2,dcwr,dcl1,dcl2,gta6,Heap.lt gta6,dc0,dc1]; done)) | ((with_reducible refine AW.cond_false ?_ ?_); · (simp (maxSteps := 3000000) (maxDischargeDepth := 12) only [seval,push_cast,appendX,dcw1,dcw2,dcml,dce1,dce2,dcel,dca1,dca2,dcwr,dcl1,dcl2,gta6,Heap.lt gta6,dc0,dc1]; done)) | simp (maxSteps := 3000000) (maxDischargeDepth := 12) only [seval,push_cast,appendX,Try.results5,dcw1,dcw2,dcml,dce1,dce2,dcel,dca1,dca2,dcwr,dcl1,dcl2,gta6,Heap.lt gta6,dc0,dc1])
        refine AOpsL.call (first := []) (cap := []) hT rfl rfl rfl fn22 rfl (ACalls.mono (wall_ok _ hK6.hw hok) ?_)
        rintro y σ7 ⟨rfl, xt7⟩
        have hK7 := hK6.frame xt7
        have gta7 := xt7.get ga6 (by simp)
        repeat (first | (with_reducible first | refine AW.seq ?_ | refine AW.block ?_ | refine AW.skip ?_ | refine AW.ret ?_ | refine AW.exit ?_ | refine AW.reg hT ?_) | ((with_reducible refine AW.cond_true ?_ ?_); · (simp (maxSteps := 3000000) (maxDischargeDepth := 12) only [seval,push_cast,appendX,dcw1,dcw2,dcml,dce1,dce2,dcel,dca1,dca2,dcwr,dcl1,dcl2,gta6,Heap.lt gta6,dc0,dc1,xt7.2,xt7.ltT,xt7.leT,gta7,Heap.lt gta7]; done)) | ((with_reducible refine AW.cond_false ?_ ?_); · (simp (maxSteps := 3000000) (maxDischargeDepth := 12) only [seval,push_cast,appendX,dcw1,dcw2,dcml,dce1,dce2,dcel,dca1,dca2,dcwr,dcl1,dcl2,gta6,Heap.lt gta6,dc0,dc1,xt7.2,xt7.ltT,xt7.leT,gta7,Heap.lt gta7]; done)) | simp (maxSteps := 3000000) (maxDischargeDepth := 12) only [seval,push_cast,appendX,Try.results5,dcw1,dcw2,dcml,dce1,dce2,dcel,dca1,dca2,dcwr,dcl1,dcl2,gta6,Heap.lt gta6,dc0,dc1,xt7.2,xt7.ltT,xt7.leT,gta7,Heap.lt gta7])
        refine AOpsL.call (first := []) (cap := []) hT rfl rfl rfl fn19 rfl (ACalls.mono (twice_ok _ x.f2 hK7.hw hok) ?_)
        rintro y σ8 ⟨rfl, fp8, hw8, hg8⟩
        have hin8 := hin.twice x.f2
        have hpf : pa ∉ fp := fun hm => by
          obtain ⟨dw, rfl, hp, hh⟩ := hK7.hw
          rcases List.mem_cons.1 hm with rfl | hm
          · rw [hp] at gta7; simp [WObj] at gta7
          · exact hh.ne gta7 (by simp) hm
        have gta8 := hg8.1.get gta7 hpf
        rcases twice_cases w x.f2 with ⟨he, hl8⟩ | ⟨he, h0, h1, n, hn, hl8⟩
        · have dce : ((w.twice x.f2).2 == 0) = false := by simpa using he
          repeat (first | (with_reducible first | refine AW.seq ?_ | refine AW.block ?_ | refine AW.skip ?_ | refine AW.ret ?_ | refine AW.exit ?_ | refine AW.reg hT ?_) | ((with_reducible refine AW.cond_true ?_ ?_); · (simp (maxSteps := 3000000) (maxDischargeDepth := 12) only [seval,push_cast,appendX,dcw1,dcw2,dcml,dce1,dce2,dcel,dca1,dca2,dcwr,dcl1,dcl2,gta6,Heap.lt gta6,dc0,dc1,xt7.2,xt7.ltT,xt7.leT,gta7,Heap.lt gta7,gta8,Heap.lt gta8,dce]; done)) | ((with_reducible refine AW.cond_false ?_ ?_); · (simp (maxSteps := 3000000) (maxDischargeDepth := 12) only [seval,push_cast,appendX,dcw1,dcw2,dcml,dce1,dce2,dcel,dca1,dca2,dcwr,dcl1,dcl2,gta6,Heap.lt gta6,dc0,dc1,xt7.2,xt7.ltT,xt7.leT,gta7,Heap.lt gta7,gta8,Heap.lt gta8,dce]; done)) | simp (maxSteps := 3000000) (maxDischargeDepth := 12) only [seval,push_cast,appendX,Try.results5,dcw1,dcw2,dcml,dce1,dce2,dcel,dca1,dca2,dcwr,dcl1,dcl2,gta6,Heap.lt gta6,dc0,dc1,xt7.2,xt7.ltT,xt7.leT,gta7,Heap.lt gta7,gta8,Heap.lt gta8,dce])
          exact ⟨601 - (i + 1), by omega, i + 1, fp8, _, Ei, Eo, rfl, hlt.1, hlt.2, hK7.same hw8 hg8 hin8 hl8, by (simp only [push_cast, TellsL, tells_any, tells_refl, hic])⟩
        · have dce : ((w.twice x.f2).2 == 0) = true := by simpa using he
          have hgi := hg8.1.get hK7.gi (hK7.hw.sepM hK7.gi)
          have hob := hK6.ob _ (List.mem_of_getElem? hn)
          have hlb : n.f3.length ≤ 1000000 := by have := hin.bytes _ (List.mem_of_getElem? hn); omega
          have dcml2 : (w.l.map eN).length = w.l.length := by simp
          have hel2 : (w.l.map eN)[x.f2.toNat]? = some (eN n) := by rw [List.getElem?_map, hn]; rfl
          rw [eN_eq] at hel2
          have dcel2 := hel2
          have dcd0 : decide (x.f2 < 0) = false := by simp; omega
          have dcd1 : decide ((w.l.length : Int) ≤ x.f2) = false := by simp; omega
          have dcd2 : (0 ≤ x.f2) = True := by simp; omega
          have dcd3 : (x.f2 < (w.l.length : Int)) = True := by simp; omega
          repeat (first | (with_reducible first | refine AW.seq ?_ | refine AW.block ?_ | refine AW.skip ?_ | refine AW.ret ?_ | refine AW.exit ?_ | refine AW.reg hT ?_) | ((with_reducible refine AW.cond_true ?_ ?_); · (simp (maxSteps := 3000000) (maxDischargeDepth := 12) only [seval,push_cast,appendX,dcw1,dcw2,dcml,dce1,dce2,dcel,dca1,dca2,dcwr,dcl1,dcl2,gta6,Heap.lt gta6,dc0,dc1,xt7.2,xt7.ltT,xt7.leT,gta7,Heap.lt gta7,gta8,Heap.lt gta8,dce,dcml2,dcel2,dcd0,dcd1,dcd2,dcd3]; done)) | ((with_reducible refine AW.cond_false ?_ ?_); · (simp (maxSteps := 3000000) (maxDischargeDepth := 12) only [seval,push_cast,appendX,dcw1,dcw2,dcml,dce1,dce2,dcel,dca1,dca2,dcwr,dcl1,dcl2,gta6,Heap.lt gta6,dc0,dc1,xt7.2,xt7.ltT,xt7.leT,gta7,Heap.lt gta7,gta8,Heap.lt gta8,dce,dcml2,dcel2,dcd0,dcd1,dcd2,dcd3]; done)) | simp (maxSteps := 3000000) (maxDischargeDepth := 12) only [seval,push_cast,appendX,Try.results5,dcw1,dcw2,dcml,dce1,dce2,dcel,dca1,dca2,dcwr,dcl1,dcl2,gta6,Heap.lt gta6,dc0,dc1,xt7.2,xt7.ltT,xt7.leT,gta7,Heap.lt gta7,gta8,Heap.lt gta8,dce,dcml2,dcel2,dcd0,dcd1,dcd2,dcd3])
          refine AOpsL.bump (t := tv) (E := Ei) (k := n.f3) rfl rfl rfl rfl rfl rfl rfl rfl rfl rfl rfl (fun v => rfl) (fun v w => ⟨rfl, rfl, rfl⟩) hgi hK7.mi hB hob hlb ?_
          intro E' v1 v2 hm hc
          refine AOpsL.nil ?_
          repeat (first | (with_reducible first | refine AW.seq ?_ | refine AW.block ?_ | refine AW.skip ?_ | refine AW.ret ?_ | refine AW.exit ?_ | refine AW.reg hT ?_) | ((with_reducible refine AW.cond_true ?_ ?_); · (simp (maxSteps := 3000000) (maxDischargeDepth := 12) only [seval,push_cast,appendX,dcw1,dcw2,dcml,dce1,dce2,dcel,dca1,dca2,dcwr,dcl1,dcl2,gta6,Heap.lt gta6,dc0,dc1,xt7.2,xt7.ltT,xt7.leT,gta7,Heap.lt gta7,gta8,Heap.lt gta8,dce,dcml2,dcel2,dcd0,dcd1,dcd2,dcd3]; done)) | ((with_reducible refine AW.cond_false ?_ ?_); · (simp (maxSteps := 3000000) (maxDischargeDepth := 12) only [seval,push_cast,appendX,dcw1,dcw2,dcml,dce1,dce2,dcel,dca1,dca2,dcwr,dcl1,dcl2,gta6,Heap.lt gta6,dc0,dc1,xt7.2,xt7.ltT,xt7.leT,gta7,Heap.lt gta7,gta8,Heap.lt gta8,dce,dcml2,dcel2,dcd0,dcd1,dcd2,dcd3]; done)) | simp (maxSteps := 3000000) (maxDischargeDepth := 12) only [seval,push_cast,appendX,Try.results5,dcw1,dcw2,dcml,dce1,dce2,dcel,dca1,dca2,dcwr,dcl1,dcl2,gta6,Heap.lt gta6,dc0,dc1,xt7.2,xt7.ltT,xt7.leT,gta7,Heap.lt gta7,gta8,Heap.lt gta8,dce,dcml2,dcel2,dcd0,dcd1,dcd2,dcd3])
          exact ⟨601 - (i + 1), by omega, i + 1, fp8, _, E', Eo, rfl, hlt.1, hlt.2, hK7.more hw8 hg8 hin8 hl8 hob hm hc, by (simp only [push_cast, TellsL, tells_any, tells_refl, hic])⟩
  · have hfin : ∃ i fp w Ei Eo, i ≤ 600 ∧ Kp R i p tv tu fp w Ei Eo σ4 ∧ True := ⟨i, fp, w, Ei, Eo, hi6, hK, trivial⟩
    by_cases hl2 : i < l.length
    · have dce1 : decide ((i : Int) < (l.length : Int)) = true := by simp; omega
      have dce2 : decide ((i : Int) < 600) = false := by simp; omega
      repeat (first | (with_reducible first | refine AW.seq ?_ | refine AW.block ?_ | refine AW.skip ?_ | refine AW.ret ?_ | refine AW.exit ?_ | refine AW.reg hT ?_) | ((with_reducible refine AW.cond_true ?_ ?_); · (simp (maxSteps := 3000000) (maxDischargeDepth := 12) only [seval,push_cast,appendX,dcw1,dcw2,dcml,dce1,dce2]; done)) | ((with_reducible refine AW.cond_false ?_ ?_); · (simp (maxSteps := 3000000) (maxDischargeDepth := 12) only [seval,push_cast,appendX,dcw1,dcw2,dcml,dce1,dce2]; done)) | simp (maxSteps := 3000000) (maxDischargeDepth := 12) only [seval,push_cast,appendX,Try.results5,dcw1,dcw2,dcml,dce1,dce2])
      exact ⟨i, fp, w, Ei, Eo, hi6, hK, by (simp only [push_cast, TellsL, tells_any, tells_refl])⟩
    · have dce1 : decide ((i : Int) < (l.length : Int)) = false := by simp; omega
      repeat (first | (with_reducible first | refine AW.seq ?_ | refine AW.block ?_ | refine AW.skip ?_ | refine AW.ret ?_ | refine AW.exit ?_ | refine AW.reg hT ?_) | ((with_reducible refine AW.cond_true ?_ ?_); · (simp (maxSteps := 3000000) (maxDischargeDepth := 12) only [seval,push_cast,appendX,dcw1,dcw2,dcml,dce1]; done)) | ((with_reducible refine AW.cond_false ?_ ?_); · (simp (maxSteps := 3000000) (maxDischargeDepth := 12) only [seval,push_cast,appendX,dcw1,dcw2,dcml,dce1]; done)) | simp (maxSteps := 3000000) (maxDischargeDepth := 12) only [seval,push_cast,appendX,Try.results5,dcw1,dcw2,dcml,dce1])
      exact ⟨i, fp, w, Ei, Eo, hi6, hK, by (simp only [push_cast, TellsL, tells_any, tells_refl])⟩
end Go.Proofs.Ytcjlnaplkodgpaa.Cm
