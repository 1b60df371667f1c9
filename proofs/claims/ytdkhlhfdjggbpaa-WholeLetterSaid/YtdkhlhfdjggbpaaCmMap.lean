import Derived.Test.YtdkhlhfdjggbpaaCmRun
set_option linter.unusedVariables false
set_option linter.unusedSimpArgs false
namespace Go.Proofs.Ytdkhlhfdjggbpaa.Cm
open Go.RowKit

section
variable {P : Program} {T : Tab} {o : Oper} {ts : List DV} {σ : Heap} {K : DV → Heap → Prop}

end
end Go.Proofs.Ytdkhlhfdjggbpaa.Cm
