/-
  No cell of these rows narrows 'for every input' (looked for: loops, veiled, ifaces, maps, wideKeys, modest, calm, conditions, laid).
  DERIVED. THE GIVEN ROWS OF THIS SEAT. 5 by the template 'for every input the law returns true; each argument reads behind the call as it read before'; 0 by the template 'total and deterministic' (their statements: YthdamnemoaaigaaTotals.lean).
  GIVEN WITH THE SEED: the statements are not yours to turn. If you find one false, say at which input.
  Laid BY PROGRAM, IN A SANDBOX (cutbox-rows.mjs): the forced cells as the released guide's own fill.sh prints them over the translation ba7547f578e9a989… (all of the seat's roots in one cut). By AI agents, Wed Nov 11 2026. No macro, syntax, notation, axiom, sorry.
-/
import Derived.Test.YthdamnemoaaigaaChecked
import GoSem.Claim
import GoSem.ClaimJoined
import GoSem.ClaimMapViews
import Derived.JoinedTies
import Derived.KernelRfl
namespace Go.Proofs.Ythdamnemoaaigaa
/- THE CELL 'sum', in the pinned program and in every row, IS THE sha256 OF THE DUMP (.gsa) THAT YthdamnemoaaigaaProg.lean LOADS. Nothing in Lean hashes anything: it is a label: what it is worth is what the hold of that sum in a sandbox is worth. -/
noncomputable def Try.pinned : Pinned := { name := "ythdamnemoaaigaa", sum := "ba7547f578e9a989f411a25cd53fec7ac0b5846f221488e95bd1e70b3d540fe3", checked := Try.checked }
namespace Rows
def none {H : Type} : Left H := { results := [], args := [] }

/-- 'viaductlaw04.PoolActs': WHATEVER THE INPUT: true; the input reads as it did. -/
def poolActsSpec : ChangeSpec := { name := "poolActs", fn := fun _ => fun
  | [d1, d2, d3] => { results := [.lit (.bool true)], args := [d1, d2, d3] }
  | _ => none }
def poolActsRow : OpenClaim := { program := "ythdamnemoaaigaa", sum := "ba7547f578e9a989f411a25cd53fec7ac0b5846f221488e95bd1e70b3d540fe3", func := "viaduct/viaductlaw04.PoolActs", spec := "poolActs", recurses := true, apart := false }
def PoolActsSaid : Prop := poolActsRow.holds Try.pinned (OpenSpec.ofChange poolActsSpec)

/-- ITS FALSE NEIGHBOUR: 'it returns false'. Refute it at one input. -/
def poolActsWrong : ChangeSpec := { name := "poolActs", fn := fun _ => fun
  | [d1, d2, d3] => { results := [.lit (.bool false)], args := [d1, d2, d3] }
  | _ => none }
def PoolActsWrongFalsely : Prop := poolActsRow.holds Try.pinned (OpenSpec.ofChange poolActsWrong)

/-- 'viaductlaw04.PoolOnce': WHATEVER THE INPUT: true; the input reads as it did. -/
def poolOnceSpec : ChangeSpec := { name := "poolOnce", fn := fun _ => fun
  | [d1, d2, d3] => { results := [.lit (.bool true)], args := [d1, d2, d3] }
  | _ => none }
def poolOnceRow : OpenClaim := { program := "ythdamnemoaaigaa", sum := "ba7547f578e9a989f411a25cd53fec7ac0b5846f221488e95bd1e70b3d540fe3", func := "viaduct/viaductlaw04.PoolOnce", spec := "poolOnce", recurses := true, apart := false }
def PoolOnceSaid : Prop := poolOnceRow.holds Try.pinned (OpenSpec.ofChange poolOnceSpec)

/-- ITS FALSE NEIGHBOUR: 'it returns false'. Refute it at one input. -/
def poolOnceWrong : ChangeSpec := { name := "poolOnce", fn := fun _ => fun
  | [d1, d2, d3] => { results := [.lit (.bool false)], args := [d1, d2, d3] }
  | _ => none }
def PoolOnceWrongFalsely : Prop := poolOnceRow.holds Try.pinned (OpenSpec.ofChange poolOnceWrong)

/-- 'viaductlaw04.PoolAll': WHATEVER THE INPUT: true; the input reads as it did. -/
def poolAllSpec : ChangeSpec := { name := "poolAll", fn := fun _ => fun
  | [d1, d2, d3] => { results := [.lit (.bool true)], args := [d1, d2, d3] }
  | _ => none }
def poolAllRow : OpenClaim := { program := "ythdamnemoaaigaa", sum := "ba7547f578e9a989f411a25cd53fec7ac0b5846f221488e95bd1e70b3d540fe3", func := "viaduct/viaductlaw04.PoolAll", spec := "poolAll", recurses := true, apart := false }
def PoolAllSaid : Prop := poolAllRow.holds Try.pinned (OpenSpec.ofChange poolAllSpec)

/-- ITS FALSE NEIGHBOUR: 'it returns false'. Refute it at one input. -/
def poolAllWrong : ChangeSpec := { name := "poolAll", fn := fun _ => fun
  | [d1, d2, d3] => { results := [.lit (.bool false)], args := [d1, d2, d3] }
  | _ => none }
def PoolAllWrongFalsely : Prop := poolAllRow.holds Try.pinned (OpenSpec.ofChange poolAllWrong)

/-- 'viaductlaw04.PoolCounts': WHATEVER THE INPUT: true; the input reads as it did. -/
def poolCountsSpec : ChangeSpec := { name := "poolCounts", fn := fun _ => fun
  | [d1, d2, d3] => { results := [.lit (.bool true)], args := [d1, d2, d3] }
  | _ => none }
def poolCountsRow : OpenClaim := { program := "ythdamnemoaaigaa", sum := "ba7547f578e9a989f411a25cd53fec7ac0b5846f221488e95bd1e70b3d540fe3", func := "viaduct/viaductlaw04.PoolCounts", spec := "poolCounts", recurses := true, apart := false }
def PoolCountsSaid : Prop := poolCountsRow.holds Try.pinned (OpenSpec.ofChange poolCountsSpec)

/-- ITS FALSE NEIGHBOUR: 'it returns false'. Refute it at one input. -/
def poolCountsWrong : ChangeSpec := { name := "poolCounts", fn := fun _ => fun
  | [d1, d2, d3] => { results := [.lit (.bool false)], args := [d1, d2, d3] }
  | _ => none }
def PoolCountsWrongFalsely : Prop := poolCountsRow.holds Try.pinned (OpenSpec.ofChange poolCountsWrong)

/-- 'viaductlaw04.PoolNobody': WHATEVER THE INPUT: true; the input reads as it did. -/
def poolNobodySpec : ChangeSpec := { name := "poolNobody", fn := fun _ => fun
  | [d] => { results := [.lit (.bool true)], args := [d] }
  | _ => none }
def poolNobodyRow : OpenClaim := { program := "ythdamnemoaaigaa", sum := "ba7547f578e9a989f411a25cd53fec7ac0b5846f221488e95bd1e70b3d540fe3", func := "viaduct/viaductlaw04.PoolNobody", spec := "poolNobody", inPlace := ["maps.clone"], recurses := true, apart := false }
def PoolNobodySaid : Prop := poolNobodyRow.holds Try.pinned (OpenSpec.ofChange poolNobodySpec)

/-- ITS FALSE NEIGHBOUR: 'it returns false'. Refute it at one input. -/
def poolNobodyWrong : ChangeSpec := { name := "poolNobody", fn := fun _ => fun
  | [d] => { results := [.lit (.bool false)], args := [d] }
  | _ => none }
def PoolNobodyWrongFalsely : Prop := poolNobodyRow.holds Try.pinned (OpenSpec.ofChange poolNobodyWrong)

/- THE SECOND FORM. 'bulk': how many values and letters a reading holds, each counted each time it is reached (what is shared counts as often as it is met; a slice's spare places count too). A statement '..UptoSaid' is the law's where the arguments, and the package variables that the reading takes, are together of bulk at most 1048576: NARROWER than '..Said'. Prove '..Said' where nothing that the law and all that it calls make is longer than what came in: it says more and counts as full. Else prove '..UptoSaid'. A law counts once. -/
mutual
def uptoBulk {H : Type} : DataW H → Nat
  | .lit (.string bytes) => bytes.length + 1
  | .lit _ => 1
  | .nil => 1
  | .ptr d => uptoBulk d + 1
  | .slice elems spare => uptoBulkAll elems + uptoBulkAll spare + 1
  | .agg parts => uptoBulkAll parts + 1
  | .iface _ d => uptoBulk d + 1
  | .map entries => uptoBulkEntries entries + 1
  | .held _ => 1
def uptoBulkAll {H : Type} : List (DataW H) → Nat
  | [] => 0
  | d :: r => uptoBulk d + uptoBulkAll r
def uptoBulkEntries {H : Type} : List (Lit × DataW H) → Nat
  | [] => 0
  | x :: r => uptoBulkEntry x + uptoBulkEntries r
def uptoBulkEntry {H : Type} : Lit × DataW H → Nat
  | (.string bytes, d) => bytes.length + uptoBulk d + 1
  | (_, d) => uptoBulk d + 1
 end
def uptoSmall : (H : Type) → List (DataW H) → Bool := fun _ ds => decide (uptoBulkAll ds ≤ 1048576)
def OpenSpec.upto (s : _root_.Go.ChangeSpec) : _root_.Go.OpenSpec := { _root_.Go.OpenSpec.ofChange s with cond := some uptoSmall }

/-- 'viaductlaw04.PoolActs', WHERE WHAT IT READS IS OF BULK AT MOST 1048576: true; the input reads as it did. -/
def poolActsUptoRow : OpenClaim := { program := "ythdamnemoaaigaa", sum := "ba7547f578e9a989f411a25cd53fec7ac0b5846f221488e95bd1e70b3d540fe3", func := "viaduct/viaductlaw04.PoolActs", spec := "poolActs", recurses := true, apart := false, narrowed := true }
def PoolActsUptoSaid : Prop := poolActsUptoRow.holds Try.pinned (OpenSpec.upto poolActsSpec)

/-- 'viaductlaw04.PoolOnce', WHERE WHAT IT READS IS OF BULK AT MOST 1048576: true; the input reads as it did. -/
def poolOnceUptoRow : OpenClaim := { program := "ythdamnemoaaigaa", sum := "ba7547f578e9a989f411a25cd53fec7ac0b5846f221488e95bd1e70b3d540fe3", func := "viaduct/viaductlaw04.PoolOnce", spec := "poolOnce", recurses := true, apart := false, narrowed := true }
def PoolOnceUptoSaid : Prop := poolOnceUptoRow.holds Try.pinned (OpenSpec.upto poolOnceSpec)

/-- 'viaductlaw04.PoolAll', WHERE WHAT IT READS IS OF BULK AT MOST 1048576: true; the input reads as it did. -/
def poolAllUptoRow : OpenClaim := { program := "ythdamnemoaaigaa", sum := "ba7547f578e9a989f411a25cd53fec7ac0b5846f221488e95bd1e70b3d540fe3", func := "viaduct/viaductlaw04.PoolAll", spec := "poolAll", recurses := true, apart := false, narrowed := true }
def PoolAllUptoSaid : Prop := poolAllUptoRow.holds Try.pinned (OpenSpec.upto poolAllSpec)

/-- 'viaductlaw04.PoolCounts', WHERE WHAT IT READS IS OF BULK AT MOST 1048576: true; the input reads as it did. -/
def poolCountsUptoRow : OpenClaim := { program := "ythdamnemoaaigaa", sum := "ba7547f578e9a989f411a25cd53fec7ac0b5846f221488e95bd1e70b3d540fe3", func := "viaduct/viaductlaw04.PoolCounts", spec := "poolCounts", recurses := true, apart := false, narrowed := true }
def PoolCountsUptoSaid : Prop := poolCountsUptoRow.holds Try.pinned (OpenSpec.upto poolCountsSpec)

/-- 'viaductlaw04.PoolNobody', WHERE WHAT IT READS IS OF BULK AT MOST 1048576: true; the input reads as it did. -/
def poolNobodyUptoRow : OpenClaim := { program := "ythdamnemoaaigaa", sum := "ba7547f578e9a989f411a25cd53fec7ac0b5846f221488e95bd1e70b3d540fe3", func := "viaduct/viaductlaw04.PoolNobody", spec := "poolNobody", inPlace := ["maps.clone"], recurses := true, apart := false, narrowed := true }
def PoolNobodyUptoSaid : Prop := poolNobodyUptoRow.holds Try.pinned (OpenSpec.upto poolNobodySpec)

end Rows
end Go.Proofs.Ythdamnemoaaigaa
