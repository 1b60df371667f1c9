/- octet.Put as the printed texts call it. -/
import Derived.Test.YtppdmaeoipeefaaPut
namespace Go.Proofs.Ytppdmaeoipeefaa.Giv
open Go.RowKit Go.Proofs.YtppdmaeoipeefaaW.PrintWords Go.Proofs.YtppdmaeoipeefaaW.PrintLast Go.Proofs.YtppdmaeoipeefaaW.PrintMore Go.Proofs.Ytppdmaeoipeefaa.Oct
set_option linter.unusedVariables false

def octet_Put.f (l : List Int) (n u : Int) : Option (List Int × Int) := if l.length ≤ 140737488355000 then some (putB l n u, putE n u) else none
theorem octet_Put.calls (A0 : Option Addr) (c0 : Nat) (l0 : List Int) (n u : Int) (r1 : List Int) (r2 : Int) (w : World) (hr0 : Kd.C (Kd.int .u8) w A0 l0.length l0) (hc0 : l0.length ≤ c0) (h : octet_Put.f l0 n u = some (r1, r2)) :
    Calls Try.prog 20 #[.slice A0 l0.length c0, .int .i64 n, .int .u64 u] w fun e w' => ∃ v0_ : Value, e = .returned (.tuple #[v0_, .int .i64 r2]) ∧ Kd.R (Kd.int .u8) 5 w' w.heap.size (fun _ => True) v0_ r1 ∧ Below w.heap.size w w' := by
  unfold octet_Put.f at h
  split at h
  · rename_i hl
    cases h
    exact put_any hr0 hc0 hl n u
  · cases h
end Go.Proofs.Ytppdmaeoipeefaa.Giv
