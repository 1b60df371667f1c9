import Derived.Test.YtgbeiiajgmfklaaCmRun
set_option linter.unusedVariables false
set_option linter.unusedSimpArgs false
namespace Go.Proofs.Ytgbeiiajgmfklaa.Cm
open Go.RowKit

section
variable {P : Program} {T : Tab} {o : Oper} {ts : List DV} {σ : Heap} {K : DV → Heap → Prop}

end
end Go.Proofs.Ytgbeiiajgmfklaa.Cm
