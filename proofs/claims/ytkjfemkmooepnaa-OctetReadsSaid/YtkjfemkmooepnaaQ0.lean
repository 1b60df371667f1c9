-- By this claim's own program (wip/tools/pp.py), out of the translation. Not trusted: Lean checks it.
import Derived.Test.YtkjfemkmooepnaaProg
import Derived.Below
import Derived.Deep.Draws
import Derived.Deep.AppendLies
import Derived.Maps.AppendAt
import Derived.OwnWalk
import Derived.Laws.BytesArg
import Derived.Laws.MakeOwn
import Derived.Laws.OwnMore
import Derived.Deep.OwnRows
import Derived.Tactics
import Derived.Lib.ConvBytes
import Derived.Laws.Slices
import Derived.WalkKit
import Derived.KernelRfl
import Derived.RowKit3
import Derived.Deep.LoopGhost
import Derived.Deep.QuietTactic
import Derived.BigQuiet
import Derived.WideLaws
import Derived.Deep.DeepCutAuto
import Derived.Deep.CutBlock
import Derived.Deep.RegionHeld3
import Derived.Laws.Rows
import Derived.Lib.AppendStr
import Derived.ArgAppend
import Derived.Laws.IdiomCopy
import Derived.OrdersHeld
import Derived.Laws.BitsLemmas
import Derived.RowKit
import Derived.Test.YtkjfemkmooepnaaWWords
import Derived.Test.YtkjfemkmooepnaaWLast
import Derived.Test.YtkjfemkmooepnaaWTab
import Derived.Test.YtkjfemkmooepnaaWFour
import Derived.Test.YtkjfemkmooepnaaWQPut
import Derived.Test.YtkjfemkmooepnaaWApart
import Derived.Test.YtkjfemkmooepnaaWArr
import Derived.Test.YtkjfemkmooepnaaWZeros
import Derived.Test.YtkjfemkmooepnaaWFoot
import Derived.Test.YtkjfemkmooepnaaWKept
import Derived.Test.YtkjfemkmooepnaaWShare
import Derived.Test.YtkjfemkmooepnaaWN
import Derived.Test.YtkjfemkmooepnaaWFootNe
import Derived.Test.YtkjfemkmooepnaaWAt
import Derived.Test.YtkjfemkmooepnaaWEqStruct
import Derived.Test.YtkjfemkmooepnaaWRepsOne
import Derived.Test.YtkjfemkmooepnaaWInv
import Derived.Test.YtkjfemkmooepnaaWInvWords
import Derived.Test.YtkjfemkmooepnaaWGuard
import Derived.Test.YtkjfemkmooepnaaWNEv
import Derived.Test.YtkjfemkmooepnaaWMore
namespace Go.Proofs.Ytkjfemkmooepnaa.Q
open Go.RowKit Go.Proofs.YtkjfemkmooepnaaW.PrintWords Go.Proofs.YtkjfemkmooepnaaW.PrintLast Go.Proofs.YtkjfemkmooepnaaW.PrintMore
attribute [local go_sem] max2_int min2_int max_two min_two max_three min_three max_four min_four   -- for this text's walks alone
set_option linter.unusedVariables false
set_option linter.unusedSimpArgs false



def errW : Option Int → Value
  | none => .nilIface
  | some c => .iface 0 (.int .i64 c)
theorem errW_none : errW none = .nilIface := rfl
theorem errW_some (c : Int) : errW (some c) = .iface 0 (.int .i64 c) := rfl

theorem info5 : (Try.prog.info? 5).map (fun i => (i.zero, i.size, i.bytes)) = some (some (.int .u8 0), 1, 1) := by kernel_rfl
-- the values' own types

end Go.Proofs.Ytkjfemkmooepnaa.Q
