/- 'alive' of the stacks' laws. -/
import Derived.Test.YtppdmaeoipeefaaPureShim
import Derived.Test.YtppdmaeoipeefaaQ4
namespace Go.Proofs.Ytppdmaeoipeefaa.Ref
open Go.RowKit Go.Proofs.YtppdmaeoipeefaaW.PrintWords Go.Proofs.YtppdmaeoipeefaaW.PrintLast Go.Proofs.YtppdmaeoipeefaaW.PrintMore Go.Proofs.Ytppdmaeoipeefaa.Oct Go.Proofs.Ytppdmaeoipeefaa.Q Go.Proofs.Ytppdmaeoipeefaa.Giv
theorem alive_enc : encF [(⟨16, 5, 64⟩ : S24), (⟨3, 0, 1⟩ : S24)] = ([0, 1, 10, 64, 0, 0, 49, 1], 0) := by decide +kernel
theorem alive03 : Ev (fun k => viaductlaw03_alive.f k) true := by
  have h := encode_ev [(⟨16, 5, 64⟩ : S24), (⟨3, 0, 1⟩ : S24)]
  rw [alive_enc] at h
  unfold viaductlaw03_alive.f
  refine Ev.bind h (Ev.congr (f := fun _ => some true) (fun k => ?_) (Ev.now _))
  kernel_rfl
end Go.Proofs.Ytppdmaeoipeefaa.Ref
