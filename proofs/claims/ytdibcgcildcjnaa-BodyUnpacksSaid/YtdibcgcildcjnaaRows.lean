/-
  No cell of these rows narrows 'for every input' (looked for: loops, veiled, ifaces, maps, wideKeys, modest, calm, conditions, laid).
  DERIVED. THE GIVEN ROWS OF THIS SEAT. 5 by the template 'for every input the law returns true; each argument reads behind the call as it read before'; 0 by the template 'total and deterministic' (their statements: YtdibcgcildcjnaaTotals.lean).
  GIVEN WITH THE SEED: the statements are not yours to turn. If you find one false, say at which input.
  Laid BY PROGRAM, IN A SANDBOX (cutbox-rows.mjs): the forced cells as the released guide's own fill.sh prints them over the translation f36077ecec2e5776… (all of the seat's roots in one cut). By AI agents, Wed Nov 11 2026. No macro, syntax, notation, axiom, sorry.
-/
import Derived.Test.YtdibcgcildcjnaaChecked
import GoSem.Claim
import GoSem.ClaimJoined
import GoSem.ClaimMapViews
import Derived.JoinedTies
import Derived.KernelRfl
namespace Go.Proofs.Ytdibcgcildcjnaa
/- THE CELL 'sum', in the pinned program and in every row, IS THE sha256 OF THE DUMP (.gsa) THAT YtdibcgcildcjnaaProg.lean LOADS. Nothing in Lean hashes anything: it is a label: what it is worth is what the hold of that sum in a sandbox is worth. -/
noncomputable def Try.pinned : Pinned := { name := "ytdibcgcildcjnaa", sum := "f36077ecec2e57769b861fe861614a3f9e4a5938355c8cd20a071079bd3c5912", checked := Try.checked }
namespace Rows
def none {H : Type} : Left H := { results := [], args := [] }

/-- 'viaductlaw07.BodyPacks': WHATEVER THE INPUT: true; the input reads as it did. -/
def bodyPacksSpec : ChangeSpec := { name := "bodyPacks", fn := fun _ => fun
  | [d] => { results := [.lit (.bool true)], args := [d] }
  | _ => none }
def bodyPacksRow : OpenClaim := { program := "ytdibcgcildcjnaa", sum := "f36077ecec2e57769b861fe861614a3f9e4a5938355c8cd20a071079bd3c5912", func := "viaduct/viaductlaw07.BodyPacks", spec := "bodyPacks", unfollowed := true, recurses := true, apart := false }
def BodyPacksSaid : Prop := bodyPacksRow.holds Try.pinned (OpenSpec.ofChange bodyPacksSpec)

/-- ITS FALSE NEIGHBOUR: 'it returns false'. Refute it at one input. -/
def bodyPacksWrong : ChangeSpec := { name := "bodyPacks", fn := fun _ => fun
  | [d] => { results := [.lit (.bool false)], args := [d] }
  | _ => none }
def BodyPacksWrongFalsely : Prop := bodyPacksRow.holds Try.pinned (OpenSpec.ofChange bodyPacksWrong)

/-- 'viaductlaw07.BodyUnpacks': WHATEVER THE INPUT: true; the input reads as it did. -/
def bodyUnpacksSpec : ChangeSpec := { name := "bodyUnpacks", fn := fun _ => fun
  | [d] => { results := [.lit (.bool true)], args := [d] }
  | _ => none }
def bodyUnpacksRow : OpenClaim := { program := "ytdibcgcildcjnaa", sum := "f36077ecec2e57769b861fe861614a3f9e4a5938355c8cd20a071079bd3c5912", func := "viaduct/viaductlaw07.BodyUnpacks", spec := "bodyUnpacks", unfollowed := true, recurses := true, apart := false }
def BodyUnpacksSaid : Prop := bodyUnpacksRow.holds Try.pinned (OpenSpec.ofChange bodyUnpacksSpec)

/-- ITS FALSE NEIGHBOUR: 'it returns false'. Refute it at one input. -/
def bodyUnpacksWrong : ChangeSpec := { name := "bodyUnpacks", fn := fun _ => fun
  | [d] => { results := [.lit (.bool false)], args := [d] }
  | _ => none }
def BodyUnpacksWrongFalsely : Prop := bodyUnpacksRow.holds Try.pinned (OpenSpec.ofChange bodyUnpacksWrong)

/-- 'viaductlaw07.BodyBack': WHATEVER THE INPUT: true; the input reads as it did. -/
def bodyBackSpec : ChangeSpec := { name := "bodyBack", fn := fun _ => fun
  | [d1, d2] => { results := [.lit (.bool true)], args := [d1, d2] }
  | _ => none }
def bodyBackRow : OpenClaim := { program := "ytdibcgcildcjnaa", sum := "f36077ecec2e57769b861fe861614a3f9e4a5938355c8cd20a071079bd3c5912", func := "viaduct/viaductlaw07.BodyBack", spec := "bodyBack", unfollowed := true, recurses := true, apart := false }
def BodyBackSaid : Prop := bodyBackRow.holds Try.pinned (OpenSpec.ofChange bodyBackSpec)

/-- ITS FALSE NEIGHBOUR: 'it returns false'. Refute it at one input. -/
def bodyBackWrong : ChangeSpec := { name := "bodyBack", fn := fun _ => fun
  | [d1, d2] => { results := [.lit (.bool false)], args := [d1, d2] }
  | _ => none }
def BodyBackWrongFalsely : Prop := bodyBackRow.holds Try.pinned (OpenSpec.ofChange bodyBackWrong)

/-- 'viaductlaw07.BodyUnlike': WHATEVER THE INPUT: true; the input reads as it did. -/
def bodyUnlikeSpec : ChangeSpec := { name := "bodyUnlike", fn := fun _ => fun
  | [d1, d2] => { results := [.lit (.bool true)], args := [d1, d2] }
  | _ => none }
def bodyUnlikeRow : OpenClaim := { program := "ytdibcgcildcjnaa", sum := "f36077ecec2e57769b861fe861614a3f9e4a5938355c8cd20a071079bd3c5912", func := "viaduct/viaductlaw07.BodyUnlike", spec := "bodyUnlike", unfollowed := true, recurses := true, apart := false }
def BodyUnlikeSaid : Prop := bodyUnlikeRow.holds Try.pinned (OpenSpec.ofChange bodyUnlikeSpec)

/-- ITS FALSE NEIGHBOUR: 'it returns false'. Refute it at one input. -/
def bodyUnlikeWrong : ChangeSpec := { name := "bodyUnlike", fn := fun _ => fun
  | [d1, d2] => { results := [.lit (.bool false)], args := [d1, d2] }
  | _ => none }
def BodyUnlikeWrongFalsely : Prop := bodyUnlikeRow.holds Try.pinned (OpenSpec.ofChange bodyUnlikeWrong)

/-- 'viaductlaw07.BodyOwn': WHATEVER THE INPUT: true; the input reads as it did. -/
def bodyOwnSpec : ChangeSpec := { name := "bodyOwn", fn := fun _ => fun
  | [d] => { results := [.lit (.bool true)], args := [d] }
  | _ => none }
def bodyOwnRow : OpenClaim := { program := "ytdibcgcildcjnaa", sum := "f36077ecec2e57769b861fe861614a3f9e4a5938355c8cd20a071079bd3c5912", func := "viaduct/viaductlaw07.BodyOwn", spec := "bodyOwn", unfollowed := true, recurses := true, apart := false }
def BodyOwnSaid : Prop := bodyOwnRow.holds Try.pinned (OpenSpec.ofChange bodyOwnSpec)

/-- ITS FALSE NEIGHBOUR: 'it returns false'. Refute it at one input. -/
def bodyOwnWrong : ChangeSpec := { name := "bodyOwn", fn := fun _ => fun
  | [d] => { results := [.lit (.bool false)], args := [d] }
  | _ => none }
def BodyOwnWrongFalsely : Prop := bodyOwnRow.holds Try.pinned (OpenSpec.ofChange bodyOwnWrong)

/- THE SECOND FORM. 'bulk': how many values and letters a reading holds, each counted each time it is reached (what is shared counts as often as it is met; a slice's spare places count too). A statement '..UptoSaid' is the law's where the arguments, and the package variables that the reading takes, are together of bulk at most 1048576: NARROWER than '..Said'. Prove '..Said' where nothing that the law and all that it calls make is longer than what came in: it says more and counts as full. Else prove '..UptoSaid'. A law counts once. -/
mutual
def uptoBulk {H : Type} : DataW H → Nat
  | .lit (.string bytes) => bytes.length + 1
  | .lit _ => 1
  | .nil => 1
  | .ptr d => uptoBulk d + 1
  | .slice elems spare => uptoBulkAll elems + uptoBulkAll spare + 1
  | .agg parts => uptoBulkAll parts + 1
  | .iface _ d => uptoBulk d + 1
  | .map entries => uptoBulkEntries entries + 1
  | .held _ => 1
def uptoBulkAll {H : Type} : List (DataW H) → Nat
  | [] => 0
  | d :: r => uptoBulk d + uptoBulkAll r
def uptoBulkEntries {H : Type} : List (Lit × DataW H) → Nat
  | [] => 0
  | x :: r => uptoBulkEntry x + uptoBulkEntries r
def uptoBulkEntry {H : Type} : Lit × DataW H → Nat
  | (.string bytes, d) => bytes.length + uptoBulk d + 1
  | (_, d) => uptoBulk d + 1
 end
def uptoSmall : (H : Type) → List (DataW H) → Bool := fun _ ds => decide (uptoBulkAll ds ≤ 1048576)
def OpenSpec.upto (s : _root_.Go.ChangeSpec) : _root_.Go.OpenSpec := { _root_.Go.OpenSpec.ofChange s with cond := some uptoSmall }

/-- 'viaductlaw07.BodyPacks', WHERE WHAT IT READS IS OF BULK AT MOST 1048576: true; the input reads as it did. -/
def bodyPacksUptoRow : OpenClaim := { program := "ytdibcgcildcjnaa", sum := "f36077ecec2e57769b861fe861614a3f9e4a5938355c8cd20a071079bd3c5912", func := "viaduct/viaductlaw07.BodyPacks", spec := "bodyPacks", unfollowed := true, recurses := true, apart := false, narrowed := true }
def BodyPacksUptoSaid : Prop := bodyPacksUptoRow.holds Try.pinned (OpenSpec.upto bodyPacksSpec)

/-- 'viaductlaw07.BodyUnpacks', WHERE WHAT IT READS IS OF BULK AT MOST 1048576: true; the input reads as it did. -/
def bodyUnpacksUptoRow : OpenClaim := { program := "ytdibcgcildcjnaa", sum := "f36077ecec2e57769b861fe861614a3f9e4a5938355c8cd20a071079bd3c5912", func := "viaduct/viaductlaw07.BodyUnpacks", spec := "bodyUnpacks", unfollowed := true, recurses := true, apart := false, narrowed := true }
def BodyUnpacksUptoSaid : Prop := bodyUnpacksUptoRow.holds Try.pinned (OpenSpec.upto bodyUnpacksSpec)

/-- 'viaductlaw07.BodyBack', WHERE WHAT IT READS IS OF BULK AT MOST 1048576: true; the input reads as it did. -/
def bodyBackUptoRow : OpenClaim := { program := "ytdibcgcildcjnaa", sum := "f36077ecec2e57769b861fe861614a3f9e4a5938355c8cd20a071079bd3c5912", func := "viaduct/viaductlaw07.BodyBack", spec := "bodyBack", unfollowed := true, recurses := true, apart := false, narrowed := true }
def BodyBackUptoSaid : Prop := bodyBackUptoRow.holds Try.pinned (OpenSpec.upto bodyBackSpec)

/-- 'viaductlaw07.BodyUnlike', WHERE WHAT IT READS IS OF BULK AT MOST 1048576: true; the input reads as it did. -/
def bodyUnlikeUptoRow : OpenClaim := { program := "ytdibcgcildcjnaa", sum := "f36077ecec2e57769b861fe861614a3f9e4a5938355c8cd20a071079bd3c5912", func := "viaduct/viaductlaw07.BodyUnlike", spec := "bodyUnlike", unfollowed := true, recurses := true, apart := false, narrowed := true }
def BodyUnlikeUptoSaid : Prop := bodyUnlikeUptoRow.holds Try.pinned (OpenSpec.upto bodyUnlikeSpec)

/-- 'viaductlaw07.BodyOwn', WHERE WHAT IT READS IS OF BULK AT MOST 1048576: true; the input reads as it did. -/
def bodyOwnUptoRow : OpenClaim := { program := "ytdibcgcildcjnaa", sum := "f36077ecec2e57769b861fe861614a3f9e4a5938355c8cd20a071079bd3c5912", func := "viaduct/viaductlaw07.BodyOwn", spec := "bodyOwn", unfollowed := true, recurses := true, apart := false, narrowed := true }
def BodyOwnUptoSaid : Prop := bodyOwnUptoRow.holds Try.pinned (OpenSpec.upto bodyOwnSpec)

end Rows
end Go.Proofs.Ytdibcgcildcjnaa
