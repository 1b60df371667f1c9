/- WireKept: what is kept behind each call. -/
import Derived.Test.YtcjlnaplkodgpaaKept0
import Derived.Test.YtcjlnaplkodgpaaWireD
namespace Go.Proofs.Ytcjlnaplkodgpaa.Cm
open Go.RowKit
set_option linter.unusedVariables false
set_option linter.unusedSimpArgs false
set_option maxRecDepth 20000
set_option maxHeartbeats 8000000
/-- How often a label lies in a list of notes. -/
def cw : List Nt → List Int → Int
  | [], _ => 0
  | x :: l, j => (if j = x.f3 then 1 else 0) + cw l j
theorem cw_app (l : List Nt) (x : Nt) (j : List Int) : cw (l ++ [x]) j = cw l j + if j = x.f3 then 1 else 0 := by
  induction l with
  | nil => simp [cw]
  | cons a l ih => rw [List.cons_append, cw, cw, ih]; omega
theorem cw_erase : ∀ (l : List Nt) {k : Nat} {x : Nt} (j : List Int), l[k]? = some x → cw l j = cw (l.eraseIdx k) j + if j = x.f3 then 1 else 0
  | [], k, x, j, h => by simp at h
  | a :: l, 0, x, j, h => by simp at h; subst h; rw [List.eraseIdx_zero, cw, List.tail_cons]; omega
  | a :: l, k + 1, x, j, h => by
    rw [List.eraseIdx_cons_succ, cw, cw, cw_erase l j (by simpa using h)]; omega
structure Kp (R : Int) (i : Nat) (p tv tu : Nat) (fp : List Nat) (w : Wi) (Ei Eo : List KE) (σ : Heap) : Prop where
  hw : Wire σ fp p w
  hin : w.In R i
  gi : σ.get tv = some (mO Ei)
  go : σ.get tu = some (mO Eo)
  mi : MOk i Ei
  mo : MOk i Eo
  bal : ∀ j, cnt Ei j = cnt Eo j + cw w.l j
  ob : ∀ x ∈ w.l, Octs x.f3
  ne : tv ≠ tu
theorem Wire.sepM {σ : Heap} {fp : List Nat} {p : Nat} {w : Wi} {t : Nat} {E : List KE} (h : Wire σ fp p w) (hg : σ.get t = some (mO E)) : t ∉ fp := by
  obtain ⟨dw, rfl, hp, hh⟩ := h
  intro hm
  rcases List.mem_cons.1 hm with rfl | hm
  · rw [hp] at hg; simp [WObj, mO] at hg
  · exact hh.ne hg (by simp [mO]) hm
theorem MOk.up {B C : Int} {E : List KE} (h : MOk B E) (hc : B ≤ C) : MOk C E := ⟨h.nd, h.oct, fun e he => by have := h.lo e he; omega, h.len⟩
theorem Kp.frame {R : Int} {i : Nat} {p tv tu : Nat} {fp : List Nat} {w : Wi} {Ei Eo : List KE} {σ σ' : Heap} (h : Kp R i p tv tu fp w Ei Eo σ) (hx : Ext [] σ σ') : Kp R i p tv tu fp w Ei Eo σ' := ⟨h.hw.frame hx (by simp), h.hin, hx.get h.gi (by simp), hx.get h.go (by simp), h.mi, h.mo, h.bal, h.ob, h.ne⟩
/-- A call of the wire that leaves the notes as they are. -/
theorem Kp.same {R : Int} {i : Nat} {p tv tu : Nat} {fp fp' : List Nat} {w w' : Wi} {Ei Eo : List KE} {σ σ' : Heap} (h : Kp R i p tv tu fp w Ei Eo σ) (hw : Wire σ' fp' p w') (hg : Grew σ σ' fp fp') (hin : w'.In R (i + 1)) (hl : w'.l = w.l) : Kp R (i + 1) p tv tu fp' w' Ei Eo σ' :=
  ⟨hw, hin, hg.1.get h.gi (h.hw.sepM h.gi), hg.1.get h.go (h.hw.sepM h.go), h.mi.up (by omega), h.mo.up (by omega), by rw [hl]; exact h.bal, by rw [hl]; exact h.ob, h.ne⟩
/-- A note more, and its label counted. -/
theorem Kp.more {R : Int} {i : Nat} {p tv tu : Nat} {fp fp' : List Nat} {w w' : Wi} {Ei Eo E' : List KE} {σ σ' : Heap} {x : Nt} (h : Kp R i p tv tu fp w Ei Eo σ) (hw : Wire σ' fp' p w') (hg : Grew σ σ' fp fp') (hin : w'.In R (i + 1)) (hl : w'.l = w.l ++ [x]) (ho : Octs x.f3) (hm : MOk ((i : Int) + 1) E') (hc : ∀ j, cnt E' j = cnt Ei j + if j = x.f3 then 1 else 0) : Kp R (i + 1) p tv tu fp' w' E' Eo (σ'.set tv (mO E')) := by
  have g1 := hg.1.get h.gi (h.hw.sepM h.gi)
  have g2 := hg.1.get h.go (h.hw.sepM h.go)
  have hx : Ext [tv] σ' (σ'.set tv (mO E')) := (Ext.refl _ _).set (.inr (by simp)) _
  refine ⟨hw.frame hx (fun q hq hm2 => ?_), hin, Heap.get_set (Heap.lt g1), hx.get g2 (by simp; exact Ne.symm h.ne), hm.up (by omega), h.mo.up (by omega), fun j => ?_, fun y hy => ?_, h.ne⟩
  · simp at hm2; subst hm2; exact hw.sepM g1 hq
  · rw [hl, cw_app, hc j, h.bal j]; omega
  · rw [hl] at hy
    rcases List.mem_append.1 hy with hy | hy
    · exact h.ob y hy
    · rw [List.mem_singleton.1 hy]; exact ho
/-- A note less, and its label counted. -/
theorem Kp.less {R : Int} {i : Nat} {p tv tu : Nat} {fp fp' : List Nat} {w w' : Wi} {Ei Eo E' : List KE} {σ σ' : Heap} {x : Nt} {k : Nat} (h : Kp R i p tv tu fp w Ei Eo σ) (hw : Wire σ' fp' p w') (hg : Grew σ σ' fp fp') (hin : w'.In R (i + 1)) (hk : w.l[k]? = some x) (hl : w'.l = w.l.eraseIdx k) (hm : MOk ((i : Int) + 1) E') (hc : ∀ j, cnt E' j = cnt Eo j + if j = x.f3 then 1 else 0) : Kp R (i + 1) p tv tu fp' w' Ei E' (σ'.set tu (mO E')) := by
  have g1 := hg.1.get h.gi (h.hw.sepM h.gi)
  have g2 := hg.1.get h.go (h.hw.sepM h.go)
  have hx : Ext [tu] σ' (σ'.set tu (mO E')) := (Ext.refl _ _).set (.inr (by simp)) _
  refine ⟨hw.frame hx (fun q hq hm2 => ?_), hin, hx.get g1 (by simp; exact h.ne), Heap.get_set (Heap.lt g2), h.mi.up (by omega), hm.up (by omega), fun j => ?_, fun y hy => ?_, h.ne⟩
  · simp at hm2; subst hm2; exact hw.sepM g2 hq
  · rw [hl, hc j, h.bal j, cw_erase w.l j hk]; omega
  · rw [hl] at hy; exact h.ob y (List.mem_of_mem_eraseIdx hy)
theorem send_cases (w : Wi) (x : Nt) : ((w.send x).2 ≠ 0 ∧ (w.send x).1.l = w.l) ∨ ((w.send x).2 = 0 ∧ (w.send x).1.l = w.l ++ [x]) := by
  unfold Wi.send
  split
  · split
    · exact .inl ⟨by simp, rfl⟩
    · exact .inr ⟨rfl, rfl⟩
  · exact .inl ⟨by simp, rfl⟩
theorem take_cases (w : Wi) (a : Int) : ((w.take a).2.2 ≠ 0 ∧ (w.take a).1.l = w.l ∧ (w.take a).2.1 = zN) ∨ ((w.take a).2.2 = 0 ∧ w.l[a.toNat]? = some (w.take a).2.1 ∧ (w.take a).1.l = w.l.eraseIdx a.toNat) := by
  unfold Wi.take
  split
  · rename_i h
    have hlt : a.toNat < w.l.length := by omega
    exact .inr ⟨rfl, by simp [List.getElem?_eq_getElem hlt], rfl⟩
  · exact .inl ⟨by simp, rfl, rfl⟩
theorem twice_cases (w : Wi) (a : Int) : ((w.twice a).2 ≠ 0 ∧ (w.twice a).1.l = w.l) ∨ ((w.twice a).2 = 0 ∧ 0 ≤ a ∧ a < (w.l.length : Int) ∧ ∃ x, w.l[a.toNat]? = some x ∧ (w.twice a).1.l = w.l ++ [x]) := by
  unfold Wi.twice
  split
  · rename_i h
    have hlt : a.toNat < w.l.length := by omega
    split
    · exact .inl ⟨by simp, rfl⟩
    · exact .inr ⟨rfl, h.1, h.2, _, List.getElem?_eq_getElem hlt, by simp [List.getElem?_eq_getElem hlt]⟩
  · exact .inl ⟨by simp, rfl⟩
end Go.Proofs.Ytcjlnaplkodgpaa.Cm
