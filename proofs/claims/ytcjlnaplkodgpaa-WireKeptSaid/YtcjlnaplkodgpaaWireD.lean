/- The law WireActs. -/
import Derived.Test.YtcjlnaplkodgpaaWireC
namespace Go.Proofs.Ytcjlnaplkodgpaa.Cm
open Go.RowKit
set_option linter.unusedVariables false
set_option linter.unusedSimpArgs false
set_option maxRecDepth 20000
set_option maxHeartbeats 16000000
theorem rtake_ok (σ : Heap) (w : Wi) (i : Int) (hk : w.Ok) : ACalls Try.prog 17 [.agg (eW w), .sc (.int .i64 i)] σ (fun y σ' => y = .tup [.agg (eW (w.take i).1), .agg (eN (w.take i).2.1), .sc (.int .i64 (w.take i).2.2)] ∧ Ext [] σ σ') := by
  by_cases hi : 0 ≤ i ∧ i < (w.l.length : Int)
  · obtain ⟨k, rfl⟩ := Int.eq_ofNat_of_zero_le hi.1
    have hkl : k < w.l.length := by omega
    have hs : w.take (k : Int) = ({ w with l := w.l.eraseIdx k }, w.l[k], 0) := by simp [Wi.take, hkl]
    rw [hs]; exact rtake_yes σ w k hkl hk
  · have hs : w.take i = (w, zN, 8) := by simp only [Wi.take, if_neg hi]
    rw [hs]; exact rtake_no σ w i hi
abbrev Ac := S43
abbrev eAc := e43
theorem eAc_eq (x : Ac) : eAc x = [.sc (.int .u8 x.f0), .sc (.int .i64 x.f1.f0), .sc (.int .i64 x.f1.f1), .sc (.int .i64 x.f1.f2), .imm (bytesD x.f1.f3), .sc (.int .i64 x.f2)] := rfl
/-- The bounds behind i calls. -/
structure Wi.In (w : Wi) (size : Int) (i : Nat) : Prop where
  room : w.room = size
  len : w.l.length ≤ i
  lost0 : 0 ≤ w.lost
  lost : w.lost ≤ i
  bytes : ∀ x ∈ w.l, x.f3.length ≤ 8192
theorem Wi.In.ok {w : Wi} {size : Int} {i : Nat} (h : w.In size i) (hs : 0 < size) (hi : i ≤ 600) : w.Ok := ⟨by rw [h.room]; exact hs, by have := h.len; omega, h.lost0, by have := h.lost; omega, h.bytes⟩
theorem Wi.In.up {w : Wi} {size : Int} {i : Nat} (h : w.In size i) : w.In size (i + 1) := ⟨h.room, by have := h.len; omega, h.lost0, by have := h.lost; omega, h.bytes⟩
theorem Wi.In.send {w : Wi} {size : Int} {i : Nat} (h : w.In size i) (x : Nt) : (w.send x).1.In size (i + 1) := by
  unfold Wi.send
  split
  · rename_i hm
    split
    · exact ⟨h.room, by have := h.len; simp; omega, by have := h.lost0; simp; omega, by have := h.lost; simp; omega, h.bytes⟩
    · refine ⟨h.room, by have := h.len; simp; omega, h.lost0, by have := h.lost; simp; omega, fun y hy => ?_⟩
      rcases List.mem_append.1 hy with hy | hy
      · exact h.bytes y hy
      · simp at hy; subst hy; exact hm.2.2.2.2
  · exact h.up
theorem Wi.In.take {w : Wi} {size : Int} {i : Nat} (h : w.In size i) (j : Int) : (w.take j).1.In size (i + 1) := by
  unfold Wi.take
  split
  · exact ⟨h.room, by have := h.len; have := List.length_eraseIdx_le w.l j.toNat; simp; omega, h.lost0, by have := h.lost; simp; omega, fun y hy => h.bytes y (List.mem_of_mem_eraseIdx hy)⟩
  · exact h.up
theorem Wi.In.twice {w : Wi} {size : Int} {i : Nat} (h : w.In size i) (j : Int) : (w.twice j).1.In size (i + 1) := by
  unfold Wi.twice
  split
  · rename_i hj
    split
    · exact h.up
    · refine ⟨h.room, by have := h.len; simp; omega, h.lost0, by have := h.lost; simp; omega, fun y hy => ?_⟩
      rcases List.mem_append.1 hy with hy | hy
      · exact h.bytes y hy
      · simp at hy; subst hy
        have hk : j.toNat < w.l.length := by omega
        rw [List.getElem?_eq_getElem hk]; exact h.bytes _ (List.getElem_mem _)
  · exact h.up
end Go.Proofs.Ytcjlnaplkodgpaa.Cm
