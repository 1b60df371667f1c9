/- SumOrder's plain law. -/
import Derived.Test.YtdcildmjmbbmeaaQ5
import Derived.Test.YtdcildmjmbbmeaaPureSum
namespace Go.Proofs.Ytdcildmjmbbmeaa.Pure
open Go.RowKit Go.Proofs.Ytdcildmjmbbmeaa.Q Go.Proofs.YtdcildmjmbbmeaaW.PrintWords Go.Proofs.YtdcildmjmbbmeaaW.PrintLast Go.Proofs.Ytdcildmjmbbmeaa.Giv Go.Proofs.Ytdcildmjmbbmeaa.Ref
set_option linter.unusedVariables false

/-- Words that change places: first p's, then q's. -/
def swapped (l : List Int) (p q : Nat) : List Int := (((l.set p (rd l q)).set (p + 1) (rd l ((q + 1 : Nat) : Int))).set q (rd l p)).set (q + 1) (rd l ((p + 1 : Nat) : Int))
theorem swapped_ok {l : List Int} (h : okB l) {p q : Nat} (hp : p + 1 < l.length) (hq : q + 1 < l.length) : okB (swapped l p q) := by
  have a := h _ (List.getElem_mem (show q < l.length by omega))
  have b := h _ (List.getElem_mem (show q + 1 < l.length by omega))
  have c := h _ (List.getElem_mem (show p < l.length by omega))
  have d := h _ (List.getElem_mem (show p + 1 < l.length by omega))
  unfold swapped
  rw [rd_at l q (by omega), rd_at l (q + 1) hq, rd_at l p (by omega), rd_at l (p + 1) hp]
  exact okB_set (okB_set (okB_set (okB_set h _ a.1 a.2) _ b.1 b.2) _ c.1 c.2) _ d.1 d.2
theorem vsum_swapped {l : List Int} {p q : Nat} (hp : p + 1 < l.length) (hq : q + 1 < l.length) (ep : p % 2 = 0) (eq_ : q % 2 = 0) : vsum (swapped l p q) = vsum l := by
  unfold swapped
  rw [rd_at l q (by omega), rd_at l (q + 1) hq, rd_at l p (by omega), rd_at l (p + 1) hp]
  have w1 : wt p = 256 := by unfold wt; rw [if_pos ep]
  have w2 : wt (p + 1) = 1 := by unfold wt; rw [if_neg (by omega)]
  have w3 : wt q = 256 := by unfold wt; rw [if_pos eq_]
  have w4 : wt (q + 1) = 1 := by unfold wt; rw [if_neg (by omega)]
  rw [vsum_set _ _ _ (by simp; omega), vsum_set _ _ _ (by simp; omega), vsum_set _ _ _ (by simp; omega), vsum_set _ _ _ (by omega), w1, w2, w3, w4]
  by_cases h : p = q
  · subst h
    simp
  · have e1 : ((l.set p l[q]).set (p + 1) l[q + 1])[q]'(by simp; omega) = l[q] := by
      rw [List.getElem_set_ne (by omega), List.getElem_set_ne (by omega)]
    have e2 : (((l.set p l[q]).set (p + 1) l[q + 1]).set q l[p])[q + 1]'(by simp; omega) = l[q + 1] := by
      rw [List.getElem_set_ne (by omega), List.getElem_set_ne (by omega), List.getElem_set_ne (by omega)]
    have e3 : (l.set p l[q])[p + 1]'(by simp; omega) = l[p + 1] := by
      rw [List.getElem_set_ne (by omega)]
    rw [e1, e2, e3]
    omega

theorem order_f {l : List Int} (hB : okB l) (hl : l.length ≤ 4096) {x y : Int} {p q : Nat} (h2 : 2 ≤ l.length) (hp : 2 * p + 1 < l.length) (hq : 2 * q + 1 < l.length)
    (hn : ¬ wrap64 ((l.length : Int) / 2) = 0) (ep : wrap64 (2 * (Int.tmod (wrap64 x) (wrap64 ((l.length : Int) / 2)))) = ((2 * p : Nat) : Int)) (eq_ : wrap64 (2 * (Int.tmod (wrap64 y) (wrap64 ((l.length : Int) / 2)))) = ((2 * q : Nat) : Int)) (k : Nat) :
    viaductlaw02_SumOrder.j0 (k + 1) l x y false = some true := by
  have ep1 : wrap64 (((2 * p : Nat) : Int) + 1) = ((2 * p + 1 : Nat) : Int) := by rw [wrap64_id (by omega) (by omega)]; omega
  have eq1 : wrap64 (((2 * q : Nat) : Int) + 1) = ((2 * q + 1 : Nat) : Int) := by rw [wrap64_id (by omega) (by omega)]; omega
  have p0 : (0 : Int) ≤ ((2 * p : Nat) : Int) := by omega
  have q0 : (0 : Int) ≤ ((2 * q : Nat) : Int) := by omega
  have p1 : (0 : Int) ≤ ((2 * p + 1 : Nat) : Int) := by omega
  have q1 : (0 : Int) ≤ ((2 * q + 1 : Nat) : Int) := by omega
  have p2 : ((2 * p : Nat) : Int) < (l.length : Int) := by omega
  have q2 : ((2 * q : Nat) : Int) < (l.length : Int) := by omega
  have p3 : ((2 * p + 1 : Nat) : Int) < (l.length : Int) := by omega
  have q3 : ((2 * q + 1 : Nat) : Int) < (l.length : Int) := by omega
  have hok := swapped_ok hB (p := 2 * p) (q := 2 * q) hp hq
  have hlen : (swapped l (2 * p) (2 * q)).length = l.length := by simp [swapped]
  have hv := vsum_swapped (l := l) (p := 2 * p) (q := 2 * q) hp hq (by omega) (by omega)
  have hof : sum_Of.f (swapped l (2 * p) (2 * q)) = some (ofF l) := by rw [of_f (by omega) hok, ofF_vsum _ hok, ofF_vsum _ hB, hv]
  have hol : sum_Of.f l = some (ofF l) := of_f (by omega) hB
  have hlim : ([] : List Int).length + l.length < 140737488355328 := by simp; omega
  rw [viaductlaw02_SumOrder.j0, if_neg (by decide), if_pos hlim, Option.bind_some, List.nil_append, if_neg hn]
  simp only [ep, eq_, ep1, eq1, p0, q0, p1, q1, p2, q2, p3, q3, if_true]
  have hs : (((l.set (2 * p) (rd l ((2 * q : Nat) : Int))).set (2 * p + 1) (rd l ((2 * q + 1 : Nat) : Int))).set (2 * q) (rd l ((2 * p : Nat) : Int))).set (2 * q + 1) (rd l ((2 * p + 1 : Nat) : Int)) = swapped l (2 * p) (2 * q) := rfl
  simp only [Int.toNat_natCast]
  rw [hs, hof, hol]
  simp

theorem SumOrder : viaductlaw02_SumOrder.Pure := by
  intro l a b hm _ hw ha hb
  have hB := okB_wf hw
  have hA := bounds_u16 ha
  have hb2 := bounds_u16 hb
  refine ⟨0 + 1, ?_⟩
  unfold viaductlaw02_SumOrder.f
  rw [alive02, Option.bind_some, if_pos rfl]
  by_cases hl : l.length ≤ 4096
  · rw [if_neg (by omega)]
    by_cases h2 : l.length < 2
    · rw [decide_eq_true (by omega), viaductlaw02_SumOrder.j0, if_pos rfl]
    · rw [decide_eq_false (by omega)]
      obtain ⟨x, rfl⟩ := Int.eq_ofNat_of_zero_le hA.1
      obtain ⟨y, rfl⟩ := Int.eq_ofNat_of_zero_le hb2.1
      have hw0 : wrap64 ((l.length : Int) / 2) = ((l.length / 2 : Nat) : Int) := by rw [wrap64_id (by omega) (by omega)]; omega
      have hwx : wrap64 (x : Int) = x := wrap64_id (by omega) (by omega)
      have hwy : wrap64 (y : Int) = y := wrap64_id (by omega) (by omega)
      have hpos : 0 < l.length / 2 := by omega
      have hmx : x % (l.length / 2) < l.length / 2 := Nat.mod_lt _ hpos
      have hmy : y % (l.length / 2) < l.length / 2 := Nat.mod_lt _ hpos
      have tx : Int.tmod (x : Int) ((l.length / 2 : Nat) : Int) = ((x % (l.length / 2) : Nat) : Int) := by rw [Int.tmod_eq_emod_of_nonneg (by omega)]; exact (Int.natCast_emod x (l.length / 2)).symm
      have ty : Int.tmod (y : Int) ((l.length / 2 : Nat) : Int) = ((y % (l.length / 2) : Nat) : Int) := by rw [Int.tmod_eq_emod_of_nonneg (by omega)]; exact (Int.natCast_emod y (l.length / 2)).symm
      refine order_f hB hl (p := x % (l.length / 2)) (q := y % (l.length / 2)) (by omega) (by omega) (by omega) (by rw [hw0]; omega) ?_ ?_ 0
      · rw [hw0, hwx, tx]
        generalize x % (l.length / 2) = p at *
        rw [wrap64_id (by omega) (by omega)]
        omega
      · rw [hw0, hwy, ty]
        generalize y % (l.length / 2) = q at *
        rw [wrap64_id (by omega) (by omega)]
        omega
  · rw [if_pos (by omega), viaductlaw02_SumOrder.j0, if_pos rfl]
end Go.Proofs.Ytdcildmjmbbmeaa.Pure
