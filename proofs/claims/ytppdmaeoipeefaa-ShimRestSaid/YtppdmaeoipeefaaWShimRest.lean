/- ShimRest answers true. -/
import Derived.Test.YtppdmaeoipeefaaPureShim2
import Derived.Test.YtppdmaeoipeefaaQ9
namespace Go.Proofs.Ytppdmaeoipeefaa.Ref
open Go.RowKit Go.Proofs.YtppdmaeoipeefaaW.PrintWords Go.Proofs.YtppdmaeoipeefaaW.PrintLast Go.Proofs.YtppdmaeoipeefaaW.PrintMore Go.Proofs.Ytppdmaeoipeefaa.Oct Go.Proofs.Ytppdmaeoipeefaa.Q Go.Proofs.Ytppdmaeoipeefaa.Giv
set_option linter.unusedVariables false

theorem rest_j1 (l m : List S24) (x y : List Int) : Ev (fun k => viaductlaw03_ShimRest.j1 k l m x y true) true := by
  refine Ev.step (f := fun _ => some true) (fun k => ?_) (Ev.now _)
  rw [viaductlaw03_ShimRest.j1, if_pos rfl]
theorem rest_j0t (l m : List S24) : Ev (fun k => viaductlaw03_ShimRest.j0 k l m true) true := by
  refine Ev.step (f := fun _ => some true) (fun k => ?_) (Ev.now _)
  rw [viaductlaw03_ShimRest.j0, if_pos rfl]
theorem rest_good {l m : List S24} (hl0 : l ≠ []) (hl : l.length ≤ 8) (hlm : ∀ e ∈ l, mayP e) (hm0 : m ≠ []) (hm : m.length ≤ 8) (hmm : ∀ e ∈ m, mayP e) : Ev (fun k => viaductlaw03_ShimRest.j1 k l m (encB l) (encB m) false) true := by
  have a1 := encB_length l
  have a2 := encB_length m
  have h1 : shim_Decode.f (encB l ++ encB m) = some (l, encB m, 0) := by
    rw [decode_f (by rw [List.length_append]; omega) (fun x hx => (List.mem_append.1 hx).elim (encB_ok l x) (encB_ok m x)), decF_enc (encB m) hl0 hl hlm]
  have h2 : shim_Decode.f (encB m) = some (m, [], 0) := by
    have := decF_enc [] hm0 hm hmm
    rw [List.append_nil] at this
    rw [decode_f (by omega) (encB_ok m), this]
  refine Ev.step (f := fun k => (viaductref03_Same.f k l l).bind fun t284 => (if t284 = true then ((viaductref03_Same.f k m m).bind fun t285 => (if t285 = true then some true else some false)) else (some false))) (fun k => ?_) (Ev.bind (same_ev l (by omega)) (Ev.congr (fun k => if_pos rfl) (Ev.bind (same_ev m (by omega)) (Ev.congr (fun k => if_pos rfl) (Ev.now _)))))
  simp only [viaductlaw03_ShimRest.j1]
  rw [if_neg (by decide), if_pos (by simp only [List.length_nil]; omega)]
  simp only [Option.bind_some, List.nil_append]
  rw [if_pos (by omega), h1]
  simp only [Option.bind_some]
  rw [h2]
  simp only [Option.bind_some, if_true]
  rfl
theorem rest_j0 (l m : List S24) (hl0 : l ≠ []) (hm0 : m ≠ []) : Ev (fun k => viaductlaw03_ShimRest.j0 k l m false) true := by
  refine Ev.step (f := fun k => (shim_Encode.f k l).bind fun bt256 => ((shim_Encode.f k m).bind fun bt260 => (if bt256.2 = 0 then (viaductlaw03_ShimRest.j1 k l m bt256.1 bt260.1 (bt260.2 != 0)) else (viaductlaw03_ShimRest.j1 k l m bt256.1 bt260.1 true)))) (fun k => ?_) ?_
  · simp only [viaductlaw03_ShimRest.j0]
    rw [if_neg (by decide)]
  · refine Ev.bind (encode_ev l) (Ev.bind (encode_ev m) ?_)
    rcases encF_cases l with ⟨he, hl, hlm⟩ | ⟨f, he, hf⟩
    · rcases encF_cases m with ⟨he', hm, hmm⟩ | ⟨f', he', hf'⟩
      · rw [he, he']
        exact Ev.congr (fun k => if_pos rfl) (rest_good hl0 hl hlm hm0 hm hmm)
      · rw [he, he']
        refine Ev.congr (fun k => ?_) (rest_j1 l m (encB l) [])
        rw [if_pos rfl, bne_iff_ne.mpr hf']
    · rw [he]
      refine Ev.congr (fun k => ?_) (rest_j1 l m [] (encF m).1)
      rw [if_neg hf]
theorem rest_ev (l m : List S24) : Ev (fun k => viaductlaw03_ShimRest.f k l m) true := by
  unfold viaductlaw03_ShimRest.f
  refine Ev.bind alive03 ?_
  refine Ev.congr (f := fun k => if (l.length : Int) > 4096 ∨ (m.length : Int) > 4096 ∨ (l.length : Int) = 0 ∨ (m.length : Int) = 0 then viaductlaw03_ShimRest.j0 k l m true else viaductlaw03_ShimRest.j0 k l m false) (fun k => ?_) ?_
  · rw [if_pos rfl]
    by_cases h1 : (l.length : Int) > 4096
    · rw [if_pos h1, if_pos (.inl h1)]
    · rw [if_neg h1]
      by_cases h2 : (m.length : Int) > 4096
      · rw [if_pos h2, if_pos (.inr (.inl h2))]
      · rw [if_neg h2]
        by_cases h3 : (l.length : Int) = 0
        · rw [if_pos h3, if_pos (.inr (.inr (.inl h3)))]
        · rw [if_neg h3]
          by_cases h4 : (m.length : Int) = 0
          · rw [if_pos (.inr (.inr (.inr h4))), beq_iff_eq.mpr h4]
          · rw [if_neg (by omega), beq_eq_false_iff_ne.mpr h4]
  · split
    · exact rest_j0t l m
    · rename_i h
      exact rest_j0 l m (fun e => h (.inr (.inr (.inl (by rw [e]; rfl))))) (fun e => h (.inr (.inr (.inr (by rw [e]; rfl)))))
end Go.Proofs.Ytppdmaeoipeefaa.Ref
namespace Go.Proofs.Ytppdmaeoipeefaa.Walk
open Go.RowKit Go.Proofs.YtppdmaeoipeefaaW.PrintWords Go.Proofs.Ytppdmaeoipeefaa.Q
set_option linter.unusedVariables false
theorem rest_walk (A : Option Addr) (c : Nat) (l : List S24) (B : Option Addr) (d : Nat) (m : List S24) (w : World) (hC : Kd.C k24 w A l.length l) (hc : l.length ≤ c) (hm : c ≤ maxLen) (hw : ∀ y ∈ l, (Lit.int .i64 y.f0).wf = true ∧ (Lit.int .i64 y.f1).wf = true ∧ (Lit.int .i64 y.f2).wf = true)
    (hC' : Kd.C k24 w B m.length m) (hc' : m.length ≤ d) (hm' : d ≤ maxLen) (hw' : ∀ y ∈ m, (Lit.int .i64 y.f0).wf = true ∧ (Lit.int .i64 y.f1).wf = true ∧ (Lit.int .i64 y.f2).wf = true) :
    Calls Try.prog 7 #[.slice A l.length c, .slice B m.length d] w fun e w' => e = .returned (.bool true) ∧ Below w.heap.size w w' := by
  obtain ⟨k, hk⟩ := (Ref.rest_ev l m).rounds
  refine (viaductlaw03_ShimRest.calls k A c l B d m true w hC hc hC' hc' hk).mono ?_
  rintro e w' ⟨rfl, hd⟩
  exact ⟨rfl, hd⟩
end Go.Proofs.Ytppdmaeoipeefaa.Walk
