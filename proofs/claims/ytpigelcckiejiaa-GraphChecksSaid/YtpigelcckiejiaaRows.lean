/-
  No cell of these rows narrows 'for every input' (looked for: loops, veiled, ifaces, maps, wideKeys, modest, calm, conditions, laid).
  DERIVED. THE GIVEN ROWS OF THIS SEAT. 6 by the template 'for every input the law returns true; each argument reads behind the call as it read before'; 0 by the template 'total and deterministic' (their statements: YtpigelcckiejiaaTotals.lean).
  GIVEN WITH THE SEED: the statements are not yours to turn. If you find one false, say at which input.
  Laid BY PROGRAM, IN A SANDBOX (cutbox-rows.mjs): the forced cells as the released guide's own fill.sh prints them over the translation 0b13ac6d7a4f3b0b… (all of the seat's roots in one cut). By AI agents, Wed Nov 11 2026. No macro, syntax, notation, axiom, sorry.
-/
import Derived.Test.YtpigelcckiejiaaChecked
import GoSem.Claim
import GoSem.ClaimJoined
import GoSem.ClaimMapViews
import Derived.JoinedTies
import Derived.KernelRfl
namespace Go.Proofs.Ytpigelcckiejiaa
/- THE CELL 'sum', in the pinned program and in every row, IS THE sha256 OF THE DUMP (.gsa) THAT YtpigelcckiejiaaProg.lean LOADS. Nothing in Lean hashes anything: it is a label: what it is worth is what the hold of that sum in a sandbox is worth. -/
noncomputable def Try.pinned : Pinned := { name := "ytpigelcckiejiaa", sum := "0b13ac6d7a4f3b0b97aceb9419e67daf730ddb360327d76d7bbe04e5d19c5a2b", checked := Try.checked }
namespace Rows
def none {H : Type} : Left H := { results := [], args := [] }

/-- 'viaductlaw09.GraphRoutes': WHATEVER THE INPUT: true; the input reads as it did. -/
def graphRoutesSpec : ChangeSpec := { name := "graphRoutes", fn := fun _ => fun
  | [d1, d2] => { results := [.lit (.bool true)], args := [d1, d2] }
  | _ => none }
def graphRoutesRow : OpenClaim := { program := "ytpigelcckiejiaa", sum := "0b13ac6d7a4f3b0b97aceb9419e67daf730ddb360327d76d7bbe04e5d19c5a2b", func := "viaduct/viaductlaw09.GraphRoutes", spec := "graphRoutes", unfollowed := true, recurses := true, plainKeys := false, apart := false }
def GraphRoutesSaid : Prop := graphRoutesRow.holds Try.pinned (OpenSpec.ofChange graphRoutesSpec)

/-- ITS FALSE NEIGHBOUR: 'it returns false'. Refute it at one input. -/
def graphRoutesWrong : ChangeSpec := { name := "graphRoutes", fn := fun _ => fun
  | [d1, d2] => { results := [.lit (.bool false)], args := [d1, d2] }
  | _ => none }
def GraphRoutesWrongFalsely : Prop := graphRoutesRow.holds Try.pinned (OpenSpec.ofChange graphRoutesWrong)

/-- 'viaductlaw09.GraphReaches': WHATEVER THE INPUT: true; the input reads as it did. -/
def graphReachesSpec : ChangeSpec := { name := "graphReaches", fn := fun _ => fun
  | [d1, d2, d3] => { results := [.lit (.bool true)], args := [d1, d2, d3] }
  | _ => none }
def graphReachesRow : OpenClaim := { program := "ytpigelcckiejiaa", sum := "0b13ac6d7a4f3b0b97aceb9419e67daf730ddb360327d76d7bbe04e5d19c5a2b", func := "viaduct/viaductlaw09.GraphReaches", spec := "graphReaches", unfollowed := true, recurses := true, plainKeys := false, apart := false }
def GraphReachesSaid : Prop := graphReachesRow.holds Try.pinned (OpenSpec.ofChange graphReachesSpec)

/-- ITS FALSE NEIGHBOUR: 'it returns false'. Refute it at one input. -/
def graphReachesWrong : ChangeSpec := { name := "graphReaches", fn := fun _ => fun
  | [d1, d2, d3] => { results := [.lit (.bool false)], args := [d1, d2, d3] }
  | _ => none }
def GraphReachesWrongFalsely : Prop := graphReachesRow.holds Try.pinned (OpenSpec.ofChange graphReachesWrong)

/-- 'viaductlaw09.GraphParts': WHATEVER THE INPUT: true; the input reads as it did. -/
def graphPartsSpec : ChangeSpec := { name := "graphParts", fn := fun _ => fun
  | [d1, d2, d3] => { results := [.lit (.bool true)], args := [d1, d2, d3] }
  | _ => none }
def graphPartsRow : OpenClaim := { program := "ytpigelcckiejiaa", sum := "0b13ac6d7a4f3b0b97aceb9419e67daf730ddb360327d76d7bbe04e5d19c5a2b", func := "viaduct/viaductlaw09.GraphParts", spec := "graphParts", unfollowed := true, recurses := true, plainKeys := false, apart := false }
def GraphPartsSaid : Prop := graphPartsRow.holds Try.pinned (OpenSpec.ofChange graphPartsSpec)

/-- ITS FALSE NEIGHBOUR: 'it returns false'. Refute it at one input. -/
def graphPartsWrong : ChangeSpec := { name := "graphParts", fn := fun _ => fun
  | [d1, d2, d3] => { results := [.lit (.bool false)], args := [d1, d2, d3] }
  | _ => none }
def GraphPartsWrongFalsely : Prop := graphPartsRow.holds Try.pinned (OpenSpec.ofChange graphPartsWrong)

/-- 'viaductlaw09.GraphOuts': WHATEVER THE INPUT: true; the input reads as it did. -/
def graphOutsSpec : ChangeSpec := { name := "graphOuts", fn := fun _ => fun
  | [d1, d2] => { results := [.lit (.bool true)], args := [d1, d2] }
  | _ => none }
def graphOutsRow : OpenClaim := { program := "ytpigelcckiejiaa", sum := "0b13ac6d7a4f3b0b97aceb9419e67daf730ddb360327d76d7bbe04e5d19c5a2b", func := "viaduct/viaductlaw09.GraphOuts", spec := "graphOuts", unfollowed := true, recurses := true, plainKeys := false, apart := false }
def GraphOutsSaid : Prop := graphOutsRow.holds Try.pinned (OpenSpec.ofChange graphOutsSpec)

/-- ITS FALSE NEIGHBOUR: 'it returns false'. Refute it at one input. -/
def graphOutsWrong : ChangeSpec := { name := "graphOuts", fn := fun _ => fun
  | [d1, d2] => { results := [.lit (.bool false)], args := [d1, d2] }
  | _ => none }
def GraphOutsWrongFalsely : Prop := graphOutsRow.holds Try.pinned (OpenSpec.ofChange graphOutsWrong)

/-- 'viaductlaw09.GraphChecks': WHATEVER THE INPUT: true; the input reads as it did. -/
def graphChecksSpec : ChangeSpec := { name := "graphChecks", fn := fun _ => fun
  | [d1, d2, d3] => { results := [.lit (.bool true)], args := [d1, d2, d3] }
  | _ => none }
def graphChecksRow : OpenClaim := { program := "ytpigelcckiejiaa", sum := "0b13ac6d7a4f3b0b97aceb9419e67daf730ddb360327d76d7bbe04e5d19c5a2b", func := "viaduct/viaductlaw09.GraphChecks", spec := "graphChecks", unfollowed := true, recurses := true, plainKeys := false, apart := false }
def GraphChecksSaid : Prop := graphChecksRow.holds Try.pinned (OpenSpec.ofChange graphChecksSpec)

/-- ITS FALSE NEIGHBOUR: 'it returns false'. Refute it at one input. -/
def graphChecksWrong : ChangeSpec := { name := "graphChecks", fn := fun _ => fun
  | [d1, d2, d3] => { results := [.lit (.bool false)], args := [d1, d2, d3] }
  | _ => none }
def GraphChecksWrongFalsely : Prop := graphChecksRow.holds Try.pinned (OpenSpec.ofChange graphChecksWrong)

/-- 'viaductlaw09.GraphNear': WHATEVER THE INPUT: true; the input reads as it did. -/
def graphNearSpec : ChangeSpec := { name := "graphNear", fn := fun _ => fun
  | [d1, d2, d3] => { results := [.lit (.bool true)], args := [d1, d2, d3] }
  | _ => none }
def graphNearRow : OpenClaim := { program := "ytpigelcckiejiaa", sum := "0b13ac6d7a4f3b0b97aceb9419e67daf730ddb360327d76d7bbe04e5d19c5a2b", func := "viaduct/viaductlaw09.GraphNear", spec := "graphNear", unfollowed := true, recurses := true, plainKeys := false, apart := false }
def GraphNearSaid : Prop := graphNearRow.holds Try.pinned (OpenSpec.ofChange graphNearSpec)

/-- ITS FALSE NEIGHBOUR: 'it returns false'. Refute it at one input. -/
def graphNearWrong : ChangeSpec := { name := "graphNear", fn := fun _ => fun
  | [d1, d2, d3] => { results := [.lit (.bool false)], args := [d1, d2, d3] }
  | _ => none }
def GraphNearWrongFalsely : Prop := graphNearRow.holds Try.pinned (OpenSpec.ofChange graphNearWrong)

/- THE SECOND FORM. 'bulk': how many values and letters a reading holds, each counted each time it is reached (what is shared counts as often as it is met; a slice's spare places count too). A statement '..UptoSaid' is the law's where the arguments, and the package variables that the reading takes, are together of bulk at most 1048576: NARROWER than '..Said'. Prove '..Said' where nothing that the law and all that it calls make is longer than what came in: it says more and counts as full. Else prove '..UptoSaid'. A law counts once. -/
mutual
def uptoBulk {H : Type} : DataW H → Nat
  | .lit (.string bytes) => bytes.length + 1
  | .lit _ => 1
  | .nil => 1
  | .ptr d => uptoBulk d + 1
  | .slice elems spare => uptoBulkAll elems + uptoBulkAll spare + 1
  | .agg parts => uptoBulkAll parts + 1
  | .iface _ d => uptoBulk d + 1
  | .map entries => uptoBulkEntries entries + 1
  | .held _ => 1
def uptoBulkAll {H : Type} : List (DataW H) → Nat
  | [] => 0
  | d :: r => uptoBulk d + uptoBulkAll r
def uptoBulkEntries {H : Type} : List (Lit × DataW H) → Nat
  | [] => 0
  | x :: r => uptoBulkEntry x + uptoBulkEntries r
def uptoBulkEntry {H : Type} : Lit × DataW H → Nat
  | (.string bytes, d) => bytes.length + uptoBulk d + 1
  | (_, d) => uptoBulk d + 1
 end
def uptoSmall : (H : Type) → List (DataW H) → Bool := fun _ ds => decide (uptoBulkAll ds ≤ 1048576)
def OpenSpec.upto (s : _root_.Go.ChangeSpec) : _root_.Go.OpenSpec := { _root_.Go.OpenSpec.ofChange s with cond := some uptoSmall }

/-- 'viaductlaw09.GraphRoutes', WHERE WHAT IT READS IS OF BULK AT MOST 1048576: true; the input reads as it did. -/
def graphRoutesUptoRow : OpenClaim := { program := "ytpigelcckiejiaa", sum := "0b13ac6d7a4f3b0b97aceb9419e67daf730ddb360327d76d7bbe04e5d19c5a2b", func := "viaduct/viaductlaw09.GraphRoutes", spec := "graphRoutes", unfollowed := true, recurses := true, plainKeys := false, apart := false, narrowed := true }
def GraphRoutesUptoSaid : Prop := graphRoutesUptoRow.holds Try.pinned (OpenSpec.upto graphRoutesSpec)

/-- 'viaductlaw09.GraphReaches', WHERE WHAT IT READS IS OF BULK AT MOST 1048576: true; the input reads as it did. -/
def graphReachesUptoRow : OpenClaim := { program := "ytpigelcckiejiaa", sum := "0b13ac6d7a4f3b0b97aceb9419e67daf730ddb360327d76d7bbe04e5d19c5a2b", func := "viaduct/viaductlaw09.GraphReaches", spec := "graphReaches", unfollowed := true, recurses := true, plainKeys := false, apart := false, narrowed := true }
def GraphReachesUptoSaid : Prop := graphReachesUptoRow.holds Try.pinned (OpenSpec.upto graphReachesSpec)

/-- 'viaductlaw09.GraphParts', WHERE WHAT IT READS IS OF BULK AT MOST 1048576: true; the input reads as it did. -/
def graphPartsUptoRow : OpenClaim := { program := "ytpigelcckiejiaa", sum := "0b13ac6d7a4f3b0b97aceb9419e67daf730ddb360327d76d7bbe04e5d19c5a2b", func := "viaduct/viaductlaw09.GraphParts", spec := "graphParts", unfollowed := true, recurses := true, plainKeys := false, apart := false, narrowed := true }
def GraphPartsUptoSaid : Prop := graphPartsUptoRow.holds Try.pinned (OpenSpec.upto graphPartsSpec)

/-- 'viaductlaw09.GraphOuts', WHERE WHAT IT READS IS OF BULK AT MOST 1048576: true; the input reads as it did. -/
def graphOutsUptoRow : OpenClaim := { program := "ytpigelcckiejiaa", sum := "0b13ac6d7a4f3b0b97aceb9419e67daf730ddb360327d76d7bbe04e5d19c5a2b", func := "viaduct/viaductlaw09.GraphOuts", spec := "graphOuts", unfollowed := true, recurses := true, plainKeys := false, apart := false, narrowed := true }
def GraphOutsUptoSaid : Prop := graphOutsUptoRow.holds Try.pinned (OpenSpec.upto graphOutsSpec)

/-- 'viaductlaw09.GraphChecks', WHERE WHAT IT READS IS OF BULK AT MOST 1048576: true; the input reads as it did. -/
def graphChecksUptoRow : OpenClaim := { program := "ytpigelcckiejiaa", sum := "0b13ac6d7a4f3b0b97aceb9419e67daf730ddb360327d76d7bbe04e5d19c5a2b", func := "viaduct/viaductlaw09.GraphChecks", spec := "graphChecks", unfollowed := true, recurses := true, plainKeys := false, apart := false, narrowed := true }
def GraphChecksUptoSaid : Prop := graphChecksUptoRow.holds Try.pinned (OpenSpec.upto graphChecksSpec)

/-- 'viaductlaw09.GraphNear', WHERE WHAT IT READS IS OF BULK AT MOST 1048576: true; the input reads as it did. -/
def graphNearUptoRow : OpenClaim := { program := "ytpigelcckiejiaa", sum := "0b13ac6d7a4f3b0b97aceb9419e67daf730ddb360327d76d7bbe04e5d19c5a2b", func := "viaduct/viaductlaw09.GraphNear", spec := "graphNear", unfollowed := true, recurses := true, plainKeys := false, apart := false, narrowed := true }
def GraphNearUptoSaid : Prop := graphNearUptoRow.holds Try.pinned (OpenSpec.upto graphNearSpec)

end Rows
end Go.Proofs.Ytpigelcckiejiaa
