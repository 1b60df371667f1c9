/-
  No cell of these rows narrows 'for every input' (looked for: loops, veiled, ifaces, maps, wideKeys, modest, calm, conditions, laid).
  DERIVED. THE GIVEN ROWS OF THIS SEAT. 4 by the template 'for every input the law returns true; each argument reads behind the call as it read before'; 0 by the template 'total and deterministic' (their statements: YtcjlnaplkodgpaaTotals.lean).
  GIVEN WITH THE SEED: the statements are not yours to turn. If you find one false, say at which input.
  Laid BY PROGRAM, IN A SANDBOX (cutbox-rows.mjs): the forced cells as the released guide's own fill.sh prints them over the translation abfcacb1d1f19bf0… (all of the seat's roots in one cut). By AI agents, Wed Nov 11 2026. No macro, syntax, notation, axiom, sorry.
-/
import Derived.Test.YtcjlnaplkodgpaaChecked
import GoSem.Claim
import GoSem.ClaimJoined
import GoSem.ClaimMapViews
import Derived.JoinedTies
import Derived.KernelRfl
namespace Go.Proofs.Ytcjlnaplkodgpaa
/- THE CELL 'sum', in the pinned program and in every row, IS THE sha256 OF THE DUMP (.gsa) THAT YtcjlnaplkodgpaaProg.lean LOADS. Nothing in Lean hashes anything: it is a label: what it is worth is what the hold of that sum in a sandbox is worth. -/
noncomputable def Try.pinned : Pinned := { name := "ytcjlnaplkodgpaa", sum := "abfcacb1d1f19bf0c84661c5ecf404ceaf064de5c807167956d30c5d30a235f6", checked := Try.checked }
namespace Rows
def none {H : Type} : Left H := { results := [], args := [] }

/-- 'viaductlaw21.WireOrder': WHATEVER THE INPUT: true; the input reads as it did. -/
def wireOrderSpec : ChangeSpec := { name := "wireOrder", fn := fun _ => fun
  | [d] => { results := [.lit (.bool true)], args := [d] }
  | _ => none }
def wireOrderRow : OpenClaim := { program := "ytcjlnaplkodgpaa", sum := "abfcacb1d1f19bf0c84661c5ecf404ceaf064de5c807167956d30c5d30a235f6", func := "viaduct/viaductlaw21.WireOrder", spec := "wireOrder", unfollowed := true, recurses := true, apart := false }
def WireOrderSaid : Prop := wireOrderRow.holds Try.pinned (OpenSpec.ofChange wireOrderSpec)

/-- ITS FALSE NEIGHBOUR: 'it returns false'. Refute it at one input. -/
def wireOrderWrong : ChangeSpec := { name := "wireOrder", fn := fun _ => fun
  | [d] => { results := [.lit (.bool false)], args := [d] }
  | _ => none }
def WireOrderWrongFalsely : Prop := wireOrderRow.holds Try.pinned (OpenSpec.ofChange wireOrderWrong)

/-- 'viaductlaw21.WireActs': WHATEVER THE INPUT: true; the input reads as it did. -/
def wireActsSpec : ChangeSpec := { name := "wireActs", fn := fun _ => fun
  | [d1, d2] => { results := [.lit (.bool true)], args := [d1, d2] }
  | _ => none }
def wireActsRow : OpenClaim := { program := "ytcjlnaplkodgpaa", sum := "abfcacb1d1f19bf0c84661c5ecf404ceaf064de5c807167956d30c5d30a235f6", func := "viaduct/viaductlaw21.WireActs", spec := "wireActs", unfollowed := true, recurses := true, apart := false }
def WireActsSaid : Prop := wireActsRow.holds Try.pinned (OpenSpec.ofChange wireActsSpec)

/-- ITS FALSE NEIGHBOUR: 'it returns false'. Refute it at one input. -/
def wireActsWrong : ChangeSpec := { name := "wireActs", fn := fun _ => fun
  | [d1, d2] => { results := [.lit (.bool false)], args := [d1, d2] }
  | _ => none }
def WireActsWrongFalsely : Prop := wireActsRow.holds Try.pinned (OpenSpec.ofChange wireActsWrong)

/-- 'viaductlaw21.WireKept': WHATEVER THE INPUT: true; the input reads as it did. -/
def wireKeptSpec : ChangeSpec := { name := "wireKept", fn := fun _ => fun
  | [d1, d2] => { results := [.lit (.bool true)], args := [d1, d2] }
  | _ => none }
def wireKeptRow : OpenClaim := { program := "ytcjlnaplkodgpaa", sum := "abfcacb1d1f19bf0c84661c5ecf404ceaf064de5c807167956d30c5d30a235f6", func := "viaduct/viaductlaw21.WireKept", spec := "wireKept", unfollowed := true, recurses := true, apart := false }
def WireKeptSaid : Prop := wireKeptRow.holds Try.pinned (OpenSpec.ofChange wireKeptSpec)

/-- ITS FALSE NEIGHBOUR: 'it returns false'. Refute it at one input. -/
def wireKeptWrong : ChangeSpec := { name := "wireKept", fn := fun _ => fun
  | [d1, d2] => { results := [.lit (.bool false)], args := [d1, d2] }
  | _ => none }
def WireKeptWrongFalsely : Prop := wireKeptRow.holds Try.pinned (OpenSpec.ofChange wireKeptWrong)

/-- 'viaductlaw21.WireOwn': WHATEVER THE INPUT: true; the input reads as it did. -/
def wireOwnSpec : ChangeSpec := { name := "wireOwn", fn := fun _ => fun
  | [d] => { results := [.lit (.bool true)], args := [d] }
  | _ => none }
def wireOwnRow : OpenClaim := { program := "ytcjlnaplkodgpaa", sum := "abfcacb1d1f19bf0c84661c5ecf404ceaf064de5c807167956d30c5d30a235f6", func := "viaduct/viaductlaw21.WireOwn", spec := "wireOwn", unfollowed := true, recurses := true, apart := false }
def WireOwnSaid : Prop := wireOwnRow.holds Try.pinned (OpenSpec.ofChange wireOwnSpec)

/-- ITS FALSE NEIGHBOUR: 'it returns false'. Refute it at one input. -/
def wireOwnWrong : ChangeSpec := { name := "wireOwn", fn := fun _ => fun
  | [d] => { results := [.lit (.bool false)], args := [d] }
  | _ => none }
def WireOwnWrongFalsely : Prop := wireOwnRow.holds Try.pinned (OpenSpec.ofChange wireOwnWrong)

/- THE SECOND FORM. 'bulk': how many values and letters a reading holds, each counted each time it is reached (what is shared counts as often as it is met; a slice's spare places count too). A statement '..UptoSaid' is the law's where the arguments, and the package variables that the reading takes, are together of bulk at most 1048576: NARROWER than '..Said'. Prove '..Said' where nothing that the law and all that it calls make is longer than what came in: it says more and counts as full. Else prove '..UptoSaid'. A law counts once. -/
mutual
def uptoBulk {H : Type} : DataW H → Nat
  | .lit (.string bytes) => bytes.length + 1
  | .lit _ => 1
  | .nil => 1
  | .ptr d => uptoBulk d + 1
  | .slice elems spare => uptoBulkAll elems + uptoBulkAll spare + 1
  | .agg parts => uptoBulkAll parts + 1
  | .iface _ d => uptoBulk d + 1
  | .map entries => uptoBulkEntries entries + 1
  | .held _ => 1
def uptoBulkAll {H : Type} : List (DataW H) → Nat
  | [] => 0
  | d :: r => uptoBulk d + uptoBulkAll r
def uptoBulkEntries {H : Type} : List (Lit × DataW H) → Nat
  | [] => 0
  | x :: r => uptoBulkEntry x + uptoBulkEntries r
def uptoBulkEntry {H : Type} : Lit × DataW H → Nat
  | (.string bytes, d) => bytes.length + uptoBulk d + 1
  | (_, d) => uptoBulk d + 1
 end
def uptoSmall : (H : Type) → List (DataW H) → Bool := fun _ ds => decide (uptoBulkAll ds ≤ 1048576)
def OpenSpec.upto (s : _root_.Go.ChangeSpec) : _root_.Go.OpenSpec := { _root_.Go.OpenSpec.ofChange s with cond := some uptoSmall }

/-- 'viaductlaw21.WireOrder', WHERE WHAT IT READS IS OF BULK AT MOST 1048576: true; the input reads as it did. -/
def wireOrderUptoRow : OpenClaim := { program := "ytcjlnaplkodgpaa", sum := "abfcacb1d1f19bf0c84661c5ecf404ceaf064de5c807167956d30c5d30a235f6", func := "viaduct/viaductlaw21.WireOrder", spec := "wireOrder", unfollowed := true, recurses := true, apart := false, narrowed := true }
def WireOrderUptoSaid : Prop := wireOrderUptoRow.holds Try.pinned (OpenSpec.upto wireOrderSpec)

/-- 'viaductlaw21.WireActs', WHERE WHAT IT READS IS OF BULK AT MOST 1048576: true; the input reads as it did. -/
def wireActsUptoRow : OpenClaim := { program := "ytcjlnaplkodgpaa", sum := "abfcacb1d1f19bf0c84661c5ecf404ceaf064de5c807167956d30c5d30a235f6", func := "viaduct/viaductlaw21.WireActs", spec := "wireActs", unfollowed := true, recurses := true, apart := false, narrowed := true }
def WireActsUptoSaid : Prop := wireActsUptoRow.holds Try.pinned (OpenSpec.upto wireActsSpec)

/-- 'viaductlaw21.WireKept', WHERE WHAT IT READS IS OF BULK AT MOST 1048576: true; the input reads as it did. -/
def wireKeptUptoRow : OpenClaim := { program := "ytcjlnaplkodgpaa", sum := "abfcacb1d1f19bf0c84661c5ecf404ceaf064de5c807167956d30c5d30a235f6", func := "viaduct/viaductlaw21.WireKept", spec := "wireKept", unfollowed := true, recurses := true, apart := false, narrowed := true }
def WireKeptUptoSaid : Prop := wireKeptUptoRow.holds Try.pinned (OpenSpec.upto wireKeptSpec)

/-- 'viaductlaw21.WireOwn', WHERE WHAT IT READS IS OF BULK AT MOST 1048576: true; the input reads as it did. -/
def wireOwnUptoRow : OpenClaim := { program := "ytcjlnaplkodgpaa", sum := "abfcacb1d1f19bf0c84661c5ecf404ceaf064de5c807167956d30c5d30a235f6", func := "viaduct/viaductlaw21.WireOwn", spec := "wireOwn", unfollowed := true, recurses := true, apart := false, narrowed := true }
def WireOwnUptoSaid : Prop := wireOwnUptoRow.holds Try.pinned (OpenSpec.upto wireOwnSpec)

end Rows
end Go.Proofs.Ytcjlnaplkodgpaa
