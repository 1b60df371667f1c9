-- By this claim's own program (wip/tools/pp.py), out of the translation. Not trusted: Lean checks it.
import Derived.Test.YtkjfemkmooepnaaQ0
import Derived.Test.YtkjfemkmooepnaaQ1
import Derived.Test.YtkjfemkmooepnaaQ2
namespace Go.Proofs.Ytkjfemkmooepnaa.Q
open Go.RowKit Go.Proofs.YtkjfemkmooepnaaW.PrintWords Go.Proofs.YtkjfemkmooepnaaW.PrintLast Go.Proofs.YtkjfemkmooepnaaW.PrintMore
attribute [local go_sem] max2_int min2_int max_two min_two max_three min_three max_four min_four   -- for this text's walks alone
set_option linter.unusedVariables false
set_option linter.unusedSimpArgs false

end Go.Proofs.Ytkjfemkmooepnaa.Q
