/-
  No cell of these rows narrows 'for every input' (looked for: loops, veiled, ifaces, maps, wideKeys, modest, calm, conditions, laid).
  DERIVED. THE GIVEN ROWS OF THIS SEAT. 4 by the template 'for every input the law returns true; each argument reads behind the call as it read before'; 0 by the template 'total and deterministic' (their statements: YtgbeiiajgmfklaaTotals.lean).
  GIVEN WITH THE SEED: the statements are not yours to turn. If you find one false, say at which input.
  Laid BY PROGRAM, IN A SANDBOX (cutbox-rows.mjs): the forced cells as the released guide's own fill.sh prints them over the translation 7c62ef68c5421b5c… (all of the seat's roots in one cut). By AI agents, Wed Nov 11 2026. No macro, syntax, notation, axiom, sorry.
-/
import Derived.Test.YtgbeiiajgmfklaaChecked
import GoSem.Claim
import GoSem.ClaimJoined
import GoSem.ClaimMapViews
import Derived.JoinedTies
import Derived.KernelRfl
namespace Go.Proofs.Ytgbeiiajgmfklaa
/- THE CELL 'sum', in the pinned program and in every row, IS THE sha256 OF THE DUMP (.gsa) THAT YtgbeiiajgmfklaaProg.lean LOADS. Nothing in Lean hashes anything: it is a label: what it is worth is what the hold of that sum in a sandbox is worth. -/
noncomputable def Try.pinned : Pinned := { name := "ytgbeiiajgmfklaa", sum := "7c62ef68c5421b5c49cc28c515d1128faa707ef646b07867bf2d79e6c455cab7", checked := Try.checked }
namespace Rows
def none {H : Type} : Left H := { results := [], args := [] }

/-- 'viaductlaw08.MessageBack': WHATEVER THE INPUT: true; the input reads as it did. -/
def messageBackSpec : ChangeSpec := { name := "messageBack", fn := fun _ => fun
  | [d1, d2] => { results := [.lit (.bool true)], args := [d1, d2] }
  | _ => none }
def messageBackRow : OpenClaim := { program := "ytgbeiiajgmfklaa", sum := "7c62ef68c5421b5c49cc28c515d1128faa707ef646b07867bf2d79e6c455cab7", func := "viaduct/viaductlaw08.MessageBack", spec := "messageBack", unfollowed := true, recurses := true, apart := false }
def MessageBackSaid : Prop := messageBackRow.holds Try.pinned (OpenSpec.ofChange messageBackSpec)

/-- ITS FALSE NEIGHBOUR: 'it returns false'. Refute it at one input. -/
def messageBackWrong : ChangeSpec := { name := "messageBack", fn := fun _ => fun
  | [d1, d2] => { results := [.lit (.bool false)], args := [d1, d2] }
  | _ => none }
def MessageBackWrongFalsely : Prop := messageBackRow.holds Try.pinned (OpenSpec.ofChange messageBackWrong)

/-- 'viaductlaw08.MessageSpoilt': WHATEVER THE INPUT: true; the input reads as it did. -/
def messageSpoiltSpec : ChangeSpec := { name := "messageSpoilt", fn := fun _ => fun
  | [d1, d2, d3] => { results := [.lit (.bool true)], args := [d1, d2, d3] }
  | _ => none }
def messageSpoiltRow : OpenClaim := { program := "ytgbeiiajgmfklaa", sum := "7c62ef68c5421b5c49cc28c515d1128faa707ef646b07867bf2d79e6c455cab7", func := "viaduct/viaductlaw08.MessageSpoilt", spec := "messageSpoilt", unfollowed := true, recurses := true, apart := false }
def MessageSpoiltSaid : Prop := messageSpoiltRow.holds Try.pinned (OpenSpec.ofChange messageSpoiltSpec)

/-- ITS FALSE NEIGHBOUR: 'it returns false'. Refute it at one input. -/
def messageSpoiltWrong : ChangeSpec := { name := "messageSpoilt", fn := fun _ => fun
  | [d1, d2, d3] => { results := [.lit (.bool false)], args := [d1, d2, d3] }
  | _ => none }
def MessageSpoiltWrongFalsely : Prop := messageSpoiltRow.holds Try.pinned (OpenSpec.ofChange messageSpoiltWrong)

/-- 'viaductlaw08.MessageUnlike': WHATEVER THE INPUT: true; the input reads as it did. -/
def messageUnlikeSpec : ChangeSpec := { name := "messageUnlike", fn := fun _ => fun
  | [d1, d2] => { results := [.lit (.bool true)], args := [d1, d2] }
  | _ => none }
def messageUnlikeRow : OpenClaim := { program := "ytgbeiiajgmfklaa", sum := "7c62ef68c5421b5c49cc28c515d1128faa707ef646b07867bf2d79e6c455cab7", func := "viaduct/viaductlaw08.MessageUnlike", spec := "messageUnlike", unfollowed := true, recurses := true, apart := false }
def MessageUnlikeSaid : Prop := messageUnlikeRow.holds Try.pinned (OpenSpec.ofChange messageUnlikeSpec)

/-- ITS FALSE NEIGHBOUR: 'it returns false'. Refute it at one input. -/
def messageUnlikeWrong : ChangeSpec := { name := "messageUnlike", fn := fun _ => fun
  | [d1, d2] => { results := [.lit (.bool false)], args := [d1, d2] }
  | _ => none }
def MessageUnlikeWrongFalsely : Prop := messageUnlikeRow.holds Try.pinned (OpenSpec.ofChange messageUnlikeWrong)

/-- 'viaductlaw08.MessageHeads': WHATEVER THE INPUT: true; the input reads as it did. -/
def messageHeadsSpec : ChangeSpec := { name := "messageHeads", fn := fun _ => fun
  | [d] => { results := [.lit (.bool true)], args := [d] }
  | _ => none }
def messageHeadsRow : OpenClaim := { program := "ytgbeiiajgmfklaa", sum := "7c62ef68c5421b5c49cc28c515d1128faa707ef646b07867bf2d79e6c455cab7", func := "viaduct/viaductlaw08.MessageHeads", spec := "messageHeads", unfollowed := true, recurses := true, apart := false }
def MessageHeadsSaid : Prop := messageHeadsRow.holds Try.pinned (OpenSpec.ofChange messageHeadsSpec)

/-- ITS FALSE NEIGHBOUR: 'it returns false'. Refute it at one input. -/
def messageHeadsWrong : ChangeSpec := { name := "messageHeads", fn := fun _ => fun
  | [d] => { results := [.lit (.bool false)], args := [d] }
  | _ => none }
def MessageHeadsWrongFalsely : Prop := messageHeadsRow.holds Try.pinned (OpenSpec.ofChange messageHeadsWrong)

/- THE SECOND FORM. 'bulk': how many values and letters a reading holds, each counted each time it is reached (what is shared counts as often as it is met; a slice's spare places count too). A statement '..UptoSaid' is the law's where the arguments, and the package variables that the reading takes, are together of bulk at most 1048576: NARROWER than '..Said'. Prove '..Said' where nothing that the law and all that it calls make is longer than what came in: it says more and counts as full. Else prove '..UptoSaid'. A law counts once. -/
mutual
def uptoBulk {H : Type} : DataW H → Nat
  | .lit (.string bytes) => bytes.length + 1
  | .lit _ => 1
  | .nil => 1
  | .ptr d => uptoBulk d + 1
  | .slice elems spare => uptoBulkAll elems + uptoBulkAll spare + 1
  | .agg parts => uptoBulkAll parts + 1
  | .iface _ d => uptoBulk d + 1
  | .map entries => uptoBulkEntries entries + 1
  | .held _ => 1
def uptoBulkAll {H : Type} : List (DataW H) → Nat
  | [] => 0
  | d :: r => uptoBulk d + uptoBulkAll r
def uptoBulkEntries {H : Type} : List (Lit × DataW H) → Nat
  | [] => 0
  | x :: r => uptoBulkEntry x + uptoBulkEntries r
def uptoBulkEntry {H : Type} : Lit × DataW H → Nat
  | (.string bytes, d) => bytes.length + uptoBulk d + 1
  | (_, d) => uptoBulk d + 1
 end
def uptoSmall : (H : Type) → List (DataW H) → Bool := fun _ ds => decide (uptoBulkAll ds ≤ 1048576)
def OpenSpec.upto (s : _root_.Go.ChangeSpec) : _root_.Go.OpenSpec := { _root_.Go.OpenSpec.ofChange s with cond := some uptoSmall }

/-- 'viaductlaw08.MessageBack', WHERE WHAT IT READS IS OF BULK AT MOST 1048576: true; the input reads as it did. -/
def messageBackUptoRow : OpenClaim := { program := "ytgbeiiajgmfklaa", sum := "7c62ef68c5421b5c49cc28c515d1128faa707ef646b07867bf2d79e6c455cab7", func := "viaduct/viaductlaw08.MessageBack", spec := "messageBack", unfollowed := true, recurses := true, apart := false, narrowed := true }
def MessageBackUptoSaid : Prop := messageBackUptoRow.holds Try.pinned (OpenSpec.upto messageBackSpec)

/-- 'viaductlaw08.MessageSpoilt', WHERE WHAT IT READS IS OF BULK AT MOST 1048576: true; the input reads as it did. -/
def messageSpoiltUptoRow : OpenClaim := { program := "ytgbeiiajgmfklaa", sum := "7c62ef68c5421b5c49cc28c515d1128faa707ef646b07867bf2d79e6c455cab7", func := "viaduct/viaductlaw08.MessageSpoilt", spec := "messageSpoilt", unfollowed := true, recurses := true, apart := false, narrowed := true }
def MessageSpoiltUptoSaid : Prop := messageSpoiltUptoRow.holds Try.pinned (OpenSpec.upto messageSpoiltSpec)

/-- 'viaductlaw08.MessageUnlike', WHERE WHAT IT READS IS OF BULK AT MOST 1048576: true; the input reads as it did. -/
def messageUnlikeUptoRow : OpenClaim := { program := "ytgbeiiajgmfklaa", sum := "7c62ef68c5421b5c49cc28c515d1128faa707ef646b07867bf2d79e6c455cab7", func := "viaduct/viaductlaw08.MessageUnlike", spec := "messageUnlike", unfollowed := true, recurses := true, apart := false, narrowed := true }
def MessageUnlikeUptoSaid : Prop := messageUnlikeUptoRow.holds Try.pinned (OpenSpec.upto messageUnlikeSpec)

/-- 'viaductlaw08.MessageHeads', WHERE WHAT IT READS IS OF BULK AT MOST 1048576: true; the input reads as it did. -/
def messageHeadsUptoRow : OpenClaim := { program := "ytgbeiiajgmfklaa", sum := "7c62ef68c5421b5c49cc28c515d1128faa707ef646b07867bf2d79e6c455cab7", func := "viaduct/viaductlaw08.MessageHeads", spec := "messageHeads", unfollowed := true, recurses := true, apart := false, narrowed := true }
def MessageHeadsUptoSaid : Prop := messageHeadsUptoRow.holds Try.pinned (OpenSpec.upto messageHeadsSpec)

end Rows
end Go.Proofs.Ytgbeiiajgmfklaa
