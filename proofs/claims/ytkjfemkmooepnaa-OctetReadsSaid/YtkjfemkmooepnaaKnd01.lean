/- The kinds of chapter 1's arguments. -/
import Derived.Test.YtkjfemkmooepnaaOct
namespace Go.Proofs.Ytkjfemkmooepnaa.Knd
open Go.RowKit Go.Proofs.YtkjfemkmooepnaaW.PrintWords Go.Proofs.YtkjfemkmooepnaaW.PrintLast Go.Proofs.YtkjfemkmooepnaaW.PrintMore
set_option linter.unusedVariables false
/-- A call: its number, and whether it asks for bytes. -/
structure S45 where
  f0 : Int
  f1 : Bool
def k45 : Kd S45 := Kd.iso (Kd.pair (Kd.int .i64) Kd.bool) (fun x => (x.f0, x.f1))
abbrev SO := S45
abbrev kO := k45
theorem k45_open {w : World} {x : SO} {cs : List Value} (h : kO.K w x cs) : cs = [.int .i64 x.f0, .bool x.f1] := by
  obtain ⟨_, _, rfl, rfl, rfl⟩ := h
  exact rfl
theorem at_op {w : World} {A : Option Addr} {xs : List SO} (h : Kd.C kO w A xs.length xs) (i : Nat) (hi : i < xs.length) : ∃ ad, A = some ad ∧ w.cell? (ad.add (i * 2)) = some (.int .i64 xs[i].f0) ∧ w.cell? ⟨(ad.add (i * 2)).block, (ad.add (i * 2)).off + 1, none⟩ = some (.bool xs[i].f1) := by
  obtain ⟨ad, c, e, _, hK, hc0⟩ := Kd.C_get h xs[i] (i : Int) (by omega) (by omega)
  have hc : ∀ j u, c[j]? = some u → w.cell? (ad.add (i * 2 + j)) = some u := hc0
  have hx : xs.getD (i : Int).toNat xs[i] = xs[i] := by rw [Int.toNat_natCast, List.getD_eq_getElem?_getD, List.getElem?_eq_getElem hi]; rfl
  rw [hx] at hK
  obtain rfl := k45_open hK
  exact ⟨ad, e, hc 0 _ rfl, by rw [← add_field _ _ 1 (by omega)]; exact hc 1 _ rfl⟩
end Go.Proofs.Ytkjfemkmooepnaa.Knd
