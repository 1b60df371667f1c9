/- The reference's Put and Pad answer what octet.Put and octet.Pad answer. No program here. -/
import Derived.Test.YtkjfemkmooepnaaRef01
namespace Go.Proofs.Ytkjfemkmooepnaa.Ref
open Go.RowKit Go.Proofs.YtkjfemkmooepnaaW.PrintWords Go.Proofs.YtkjfemkmooepnaaW.PrintLast Go.Proofs.YtkjfemkmooepnaaW.PrintMore Go.Proofs.Ytkjfemkmooepnaa.Oct Go.Proofs.Ytkjfemkmooepnaa.Q

theorem fits_iff (u : Int) (h0 : 0 ≤ u) (n : Nat) : u % 256 ^ n = u ↔ u / 256 ^ n = 0 := by
  have hp := pow256_pos n
  have h1 := Int.emod_add_mul_ediv u (256 ^ n)
  constructor
  · intro h
    exact Int.ediv_eq_zero_of_lt h0 (by rw [← h]; exact Int.emod_lt_of_pos u hp)
  · intro h
    rw [h] at h1
    omega

theorem refPut_ev (l : List Int) (hl : l.length ≤ 4096) (n u : Int) (h0 : 0 ≤ u) (hu : u < 18446744073709551616) : Ev (fun k => viaductref01_Put.f k l n u) (putB l n u, putE n u) := by
  by_cases h1 : 1 ≤ n
  · by_cases h8 : n ≤ 8
    · obtain ⟨m, rfl⟩ := Int.eq_ofNat_of_zero_le (show 0 ≤ n by omega)
      have hm : m ≤ 8 := by omega
      have hd := digits_ev u h0 hu m hm
      have hn := number_ev (digits u m) (digits_mem u m) (by rw [digits_length]; exact hm)
      rw [numB_digits u h0] at hn
      have e8 : (8 * (m : Int)).toNat = 8 * m := by omega
      have hfit : putE (m : Int) u = 0 ↔ u % 256 ^ m = u := by
        rw [fits_iff u h0]
        unfold putE
        rw [if_pos ⟨h1, h8⟩, e8, pow256]
        by_cases h7 : (m : Int) < 8
        · by_cases hq : u / 256 ^ m = 0
          · rw [if_neg (fun h => h.2 hq)]; simp [hq]
          · rw [if_pos ⟨h7, hq⟩]; simp [hq]
        · rw [if_neg (fun h => h7 h.1)]
          have : m = 8 := by omega
          subst this
          simp only [true_iff]
          exact Int.ediv_eq_zero_of_lt h0 (by simpa using hu)
      refine Ev.congr (f := fun k => viaductref01_Put.j0 k l (m : Int) u false) (fun k => ?_) ?_
      · unfold viaductref01_Put.f
        rw [if_neg (by omega), decide_eq_false (by omega)]
      · refine Ev.step (f := fun k => (viaductref01_Digits.f k (m : Int) u).bind fun t109 => ((viaductref01_Number.f k t109).bind fun t112 => (if t112 = u then ((some (([] : List Int) : List Int)).bind fun y113 => (if y113.length + l.length < 140737488355328 then ((some (y113 ++ l : List Int)).bind fun y116 => (if y116.length + t109.length < 140737488355328 then (some ((y116 ++ t109), 0)) else (none))) else (none))) else (some (([] : List Int), 3))))) (fun k => ?_) ?_
        · simp only [viaductref01_Put.j0]
          rw [if_neg (by decide)]
        · refine Ev.bind hd (Ev.bind hn ?_)
          by_cases hq : u % 256 ^ m = u
          · have e0 := hfit.2 hq
            have e1 : putB l (m : Int) u = l ++ digits u m := by unfold putB; rw [e0]; simp
            rw [e0, e1]
            refine Ev.congr (f := fun _ => some (l ++ digits u m, 0)) (fun k => ?_) (Ev.now _)
            rw [if_pos hq]
            simp only [Option.bind_some, List.nil_append]
            rw [if_pos (by simp; omega), if_pos (by rw [digits_length]; omega)]
          · have e0 : putE (m : Int) u = 3 := by
              have : putE (m : Int) u ≠ 0 := fun h => hq (hfit.1 h)
              unfold putE at this ⊢
              rw [if_pos ⟨h1, h8⟩] at this ⊢
              split at this
              · rw [if_pos ‹_›]
              · exact absurd rfl this
            have e1 : putB l (m : Int) u = [] := by unfold putB; rw [e0]; simp
            rw [e0, e1]
            refine Ev.congr (f := fun _ => some ([], 3)) (fun k => ?_) (Ev.now _)
            rw [if_neg hq]
    · have e0 : putE n u = 2 := by unfold putE; rw [if_neg (fun h => h8 h.2)]
      have e1 : putB l n u = [] := by unfold putB; rw [e0]; simp
      rw [e0, e1]
      refine Ev.congr (f := fun k => viaductref01_Put.j0 k l n u true) (fun k => ?_) (Ev.step (f := fun _ => some ([], 2)) (fun k => ?_) (Ev.now _))
      · unfold viaductref01_Put.f
        rw [if_neg (by omega), decide_eq_true (by omega)]
      · simp only [viaductref01_Put.j0]
        rfl
  · have e0 : putE n u = 2 := by unfold putE; rw [if_neg (fun h => h1 h.1)]
    have e1 : putB l n u = [] := by unfold putB; rw [e0]; simp
    rw [e0, e1]
    refine Ev.congr (f := fun k => viaductref01_Put.j0 k l n u true) (fun k => ?_) (Ev.step (f := fun _ => some ([], 2)) (fun k => ?_) (Ev.now _))
    · unfold viaductref01_Put.f
      rw [if_pos (by omega)]
    · simp only [viaductref01_Put.j0]
      rfl

theorem pad_ev : ∀ (m : Nat) (l : List Int), l.length ≤ 4200 → (l.length + m) % 4 = 0 → m < 4 → Ev (fun k => viaductref01_Pad.l0 k l) (l ++ List.replicate m 0)
  | 0, l, hl, hm, _ => by
    refine Ev.step (f := fun _ => some l) (fun k => ?_) (by simpa using Ev.now l)
    simp only [viaductref01_Pad.l0]
    rw [if_pos (by omega)]
  | m + 1, l, hl, hm, h4 => by
    by_cases hl2 : l.length = 4200
    · omega
    have ih := pad_ev m (l ++ [0]) (by simp; omega) (by simp; omega) (by omega)
    refine Ev.step (f := fun k => viaductref01_Pad.l0 k (l ++ [0])) (fun k => ?_) (by simpa [List.replicate_succ] using ih)
    simp only [viaductref01_Pad.l0]
    rw [if_neg (by omega), if_pos (by omega)]
theorem refPad_ev (l : List Int) (hl : l.length ≤ 4096) : Ev (fun k => viaductref01_Pad.f k l) (padF l) := by
  have h := pad_ev ((l.length + 3) / 4 * 4 - l.length) l (by omega) (by omega) (by omega)
  refine Ev.congr (f := fun k => viaductref01_Pad.l0 k l) (fun k => ?_) h
  unfold viaductref01_Pad.f
  simp only [Option.bind_some, List.nil_append]
  rw [if_pos (by simp; omega)]
end Go.Proofs.Ytkjfemkmooepnaa.Ref
