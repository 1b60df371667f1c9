/- ShimLast answers true. -/
import Derived.Test.YtppdmaeoipeefaaPureShim2
import Derived.Test.YtppdmaeoipeefaaQ8
namespace Go.Proofs.Ytppdmaeoipeefaa.Ref
open Go.RowKit Go.Proofs.YtppdmaeoipeefaaW.PrintWords Go.Proofs.YtppdmaeoipeefaaW.PrintLast Go.Proofs.YtppdmaeoipeefaaW.PrintMore Go.Proofs.Ytppdmaeoipeefaa.Oct Go.Proofs.Ytppdmaeoipeefaa.Q Go.Proofs.Ytppdmaeoipeefaa.Giv
set_option linter.unusedVariables false

theorem u8_bit {x : Int} (h0 : 0 ≤ x) (h1 : x ≤ 255) : Go.bits .and .u8 x 1 = x % 2 := by
  obtain ⟨n, rfl⟩ := Int.eq_ofNat_of_zero_le h0
  rw [show (1 : Int) = ((1 : Nat) : Int) from rfl, u8_and_nat n 1 (by omega) (by omega), nat_mask1]
  omega
theorem last_go (l : List S24) (hl : l.length ≤ 8) (hm : ∀ e ∈ l, mayP e) : ∀ (m i : Nat), m + i = l.length → Ev (fun k => viaductlaw03_ShimLast.l0 k l (encB l) (l.length : Int) (i : Int)) true
  | 0, i, hi => by
    refine Ev.step (f := fun _ => some true) (fun k => ?_) (Ev.now _)
    simp only [viaductlaw03_ShimLast.l0]
    rw [if_neg (by omega)]
  | m + 1, i, hi => by
    have hlt : i < l.length := by omega
    have hw : wrap64 (4 * (i : Int)) = 4 * (i : Int) := wrap64_id (by omega) (by omega)
    have hw2 : wrap64 (4 * (i : Int) + 2) = ((4 * i + 2 : Nat) : Int) := by rw [wrap64_id (by omega) (by omega)]; omega
    have hw3 : wrap64 (4 * (i : Int) + 3) = ((4 * i + 3 : Nat) : Int) := by rw [wrap64_id (by omega) (by omega)]; omega
    have hw1 : wrap64 ((l.length : Int) - 1) = (l.length : Int) - 1 := wrap64_id (by omega) (by omega)
    have hwi : wrap64 ((i : Int) + 1) = ((i + 1 : Nat) : Int) := by rw [wrap64_id (by omega) (by omega)]; omega
    have hlen := encB_length l
    have p0 : (i : Int) < (l.length : Int) := by omega
    have p1 : (0 : Int) ≤ ((4 * i + 2 : Nat) : Int) := by omega
    have p2 : ((4 * i + 2 : Nat) : Int) < ((encB l).length : Int) := by omega
    have p3 : (0 : Int) ≤ ((4 * i + 3 : Nat) : Int) := by omega
    have p4 : ((4 * i + 3 : Nat) : Int) < ((encB l).length : Int) := by omega
    have p5 : (0 : Int) ≤ (i : Int) := by omega
    have hlast : (l.drop (i + 1)).isEmpty = true ∧ ((i : Int) == (l.length : Int) - 1) = true ∨ (l.drop (i + 1)).isEmpty = false ∧ ((i : Int) == (l.length : Int) - 1) = false := by
      by_cases hz : i + 1 = l.length
      · exact .inl ⟨(last_at l i hlt).2 hz, by simp; omega⟩
      · refine .inr ⟨?_, by simp; omega⟩
        rw [Bool.eq_false_iff]
        exact fun h => hz ((last_at l i hlt).1 h)
    have ih := last_go l hl hm m (i + 1) (by omega)
    clear hlen hi
    have he := hm l[i] (List.getElem_mem hlt)
    have hb := numE_bit he (l.drop (i + 1)).isEmpty
    have hd := digit_range (numE l[i] (l.drop (i + 1)).isEmpty) 1
    have h2 : rd (encB l) ((4 * i + 2 : Nat) : Int) = digit (numE l[i] (l.drop (i + 1)).isEmpty) 1 := encB_at l i 2 hlt (by decide)
    have h3 : rd (encB l) ((4 * i + 3 : Nat) : Int) = digit (numE l[i] (l.drop (i + 1)).isEmpty) 0 := encB_at l i 3 hlt (by decide)
    rw [hb.2.2.2] at h3
    have hb1 := hb.2.2.1
    clear hb
    generalize digit (numE l[i] (l.drop (i + 1)).isEmpty) 1 = d at *
    have hf2 : wrap64 l[i].f2 = l[i].f2 := wrap64_id (by have := he.2.2; omega) (by have := he.2.2; omega)
    have hbit : ((Go.bits .and .u8 d 1 == 1) != ((i : Int) == (l.length : Int) - 1)) = false := by
      rw [u8_bit hd.1 hd.2, hb1]
      rcases hlast with ⟨h, h'⟩ | ⟨h, h'⟩ <;> rw [h, h'] <;> rfl
    refine Ev.step (f := fun k => viaductlaw03_ShimLast.l0 k l (encB l) (l.length : Int) ((i + 1 : Nat) : Int)) (fun k => ?_) ih
    rw [viaductlaw03_ShimLast.l0, if_pos p0, hw, hw2, hw3, if_pos p1, if_pos p2, h2, hw1, hbit, if_neg (by decide), if_pos p3, if_pos p4, if_pos p5, if_pos p0, h3, hf2, rdT_at l i hlt, if_pos rfl, hwi]
theorem last_ev (l : List S24) : Ev (fun k => viaductlaw03_ShimLast.f k l) true := by
  unfold viaductlaw03_ShimLast.f
  refine Ev.bind alive03 ?_
  by_cases h : (l.length : Int) > 4096
  · refine Ev.congr (f := fun _ => some true) (fun k => ?_) (Ev.now _)
    rw [if_pos rfl, if_pos h]
  · refine Ev.congr (f := fun k => (shim_Encode.f k l).bind fun bt248 => (if bt248.2 = 0 then (if (bt248.1.length : Int) = (wrap64 (4 * (l.length : Int))) then (viaductlaw03_ShimLast.l0 k l bt248.1 (l.length : Int) 0) else (some false)) else (some ((bt248.1.length : Int) == 0)))) (fun k => ?_) (Ev.bind (encode_ev l) ?_)
    · rw [if_pos rfl, if_neg h]
    · rcases encF_cases l with ⟨he, hl, hm⟩ | ⟨f, he, hf⟩
      · rw [he]
        refine Ev.congr (fun k => ?_) (last_go l hl hm l.length 0 (by omega))
        rw [if_pos rfl, if_pos (by rw [encB_length, wrap64_id (by omega) (by omega)]; omega)]
        rfl
      · rw [he]
        refine Ev.congr (f := fun _ => some true) (fun k => ?_) (Ev.now _)
        rw [if_neg hf]
        rfl
end Go.Proofs.Ytppdmaeoipeefaa.Ref
namespace Go.Proofs.Ytppdmaeoipeefaa.Walk
open Go.RowKit Go.Proofs.YtppdmaeoipeefaaW.PrintWords Go.Proofs.Ytppdmaeoipeefaa.Q
set_option linter.unusedVariables false
theorem last_walk (A : Option Addr) (c : Nat) (l : List S24) (w : World) (hC : Kd.C k24 w A l.length l) (hc : l.length ≤ c) (hm : c ≤ maxLen) (hw : ∀ y ∈ l, (Lit.int .i64 y.f0).wf = true ∧ (Lit.int .i64 y.f1).wf = true ∧ (Lit.int .i64 y.f2).wf = true) :
    Calls Try.prog 6 #[.slice A l.length c] w fun e w' => e = .returned (.bool true) ∧ Below w.heap.size w w' := by
  obtain ⟨k, hk⟩ := (Ref.last_ev l).rounds
  refine (viaductlaw03_ShimLast.calls k A c l true w hC hc hk).mono ?_
  rintro e w' ⟨rfl, hd⟩
  exact ⟨rfl, hd⟩
end Go.Proofs.Ytppdmaeoipeefaa.Walk
