/-
  No cell of these rows narrows 'for every input' (looked for: loops, veiled, ifaces, maps, wideKeys, modest, calm, conditions, laid).
  DERIVED. THE GIVEN ROWS OF THIS SEAT. 6 by the template 'for every input the law returns true; each argument reads behind the call as it read before'; 0 by the template 'total and deterministic' (their statements: YtkjfemkmooepnaaTotals.lean).
  GIVEN WITH THE SEED: the statements are not yours to turn. If you find one false, say at which input.
  Laid BY PROGRAM, IN A SANDBOX (cutbox-rows.mjs): the forced cells as the released guide's own fill.sh prints them over the translation a4d9cb9b0440e301… (all of the seat's roots in one cut). By AI agents, Wed Nov 11 2026. No macro, syntax, notation, axiom, sorry.
-/
import Derived.Test.YtkjfemkmooepnaaChecked
import GoSem.Claim
import GoSem.ClaimJoined
import GoSem.ClaimMapViews
import Derived.JoinedTies
import Derived.KernelRfl
namespace Go.Proofs.Ytkjfemkmooepnaa
/- THE CELL 'sum', in the pinned program and in every row, IS THE sha256 OF THE DUMP (.gsa) THAT YtkjfemkmooepnaaProg.lean LOADS. Nothing in Lean hashes anything: it is a label: what it is worth is what the hold of that sum in a sandbox is worth. -/
noncomputable def Try.pinned : Pinned := { name := "ytkjfemkmooepnaa", sum := "a4d9cb9b0440e301839d8f8660b8f032b44c7484587caa33a41256fab139a75d", checked := Try.checked }
namespace Rows
def none {H : Type} : Left H := { results := [], args := [] }

/-- 'viaductlaw01.OctetPuts': WHATEVER THE INPUT: true; the input reads as it did. -/
def octetPutsSpec : ChangeSpec := { name := "octetPuts", fn := fun _ => fun
  | [d1, d2, d3] => { results := [.lit (.bool true)], args := [d1, d2, d3] }
  | _ => none }
def octetPutsRow : OpenClaim := { program := "ytkjfemkmooepnaa", sum := "a4d9cb9b0440e301839d8f8660b8f032b44c7484587caa33a41256fab139a75d", func := "viaduct/viaductlaw01.OctetPuts", spec := "octetPuts", apart := false }
def OctetPutsSaid : Prop := octetPutsRow.holds Try.pinned (OpenSpec.ofChange octetPutsSpec)

/-- ITS FALSE NEIGHBOUR: 'it returns false'. Refute it at one input. -/
def octetPutsWrong : ChangeSpec := { name := "octetPuts", fn := fun _ => fun
  | [d1, d2, d3] => { results := [.lit (.bool false)], args := [d1, d2, d3] }
  | _ => none }
def OctetPutsWrongFalsely : Prop := octetPutsRow.holds Try.pinned (OpenSpec.ofChange octetPutsWrong)

/-- 'viaductlaw01.OctetBack': WHATEVER THE INPUT: true; the input reads as it did. -/
def octetBackSpec : ChangeSpec := { name := "octetBack", fn := fun _ => fun
  | [d1, d2] => { results := [.lit (.bool true)], args := [d1, d2] }
  | _ => none }
def octetBackRow : OpenClaim := { program := "ytkjfemkmooepnaa", sum := "a4d9cb9b0440e301839d8f8660b8f032b44c7484587caa33a41256fab139a75d", func := "viaduct/viaductlaw01.OctetBack", spec := "octetBack", apart := false }
def OctetBackSaid : Prop := octetBackRow.holds Try.pinned (OpenSpec.ofChange octetBackSpec)

/-- ITS FALSE NEIGHBOUR: 'it returns false'. Refute it at one input. -/
def octetBackWrong : ChangeSpec := { name := "octetBack", fn := fun _ => fun
  | [d1, d2] => { results := [.lit (.bool false)], args := [d1, d2] }
  | _ => none }
def OctetBackWrongFalsely : Prop := octetBackRow.holds Try.pinned (OpenSpec.ofChange octetBackWrong)

/-- 'viaductlaw01.OctetPads': WHATEVER THE INPUT: true; the input reads as it did. -/
def octetPadsSpec : ChangeSpec := { name := "octetPads", fn := fun _ => fun
  | [d] => { results := [.lit (.bool true)], args := [d] }
  | _ => none }
def octetPadsRow : OpenClaim := { program := "ytkjfemkmooepnaa", sum := "a4d9cb9b0440e301839d8f8660b8f032b44c7484587caa33a41256fab139a75d", func := "viaduct/viaductlaw01.OctetPads", spec := "octetPads", apart := false }
def OctetPadsSaid : Prop := octetPadsRow.holds Try.pinned (OpenSpec.ofChange octetPadsSpec)

/-- ITS FALSE NEIGHBOUR: 'it returns false'. Refute it at one input. -/
def octetPadsWrong : ChangeSpec := { name := "octetPads", fn := fun _ => fun
  | [d] => { results := [.lit (.bool false)], args := [d] }
  | _ => none }
def OctetPadsWrongFalsely : Prop := octetPadsRow.holds Try.pinned (OpenSpec.ofChange octetPadsWrong)

/-- 'viaductlaw01.OctetReads': WHATEVER THE INPUT: true; the input reads as it did. -/
def octetReadsSpec : ChangeSpec := { name := "octetReads", fn := fun _ => fun
  | [d1, d2] => { results := [.lit (.bool true)], args := [d1, d2] }
  | _ => none }
def octetReadsRow : OpenClaim := { program := "ytkjfemkmooepnaa", sum := "a4d9cb9b0440e301839d8f8660b8f032b44c7484587caa33a41256fab139a75d", func := "viaduct/viaductlaw01.OctetReads", spec := "octetReads", apart := false }
def OctetReadsSaid : Prop := octetReadsRow.holds Try.pinned (OpenSpec.ofChange octetReadsSpec)

/-- ITS FALSE NEIGHBOUR: 'it returns false'. Refute it at one input. -/
def octetReadsWrong : ChangeSpec := { name := "octetReads", fn := fun _ => fun
  | [d1, d2] => { results := [.lit (.bool false)], args := [d1, d2] }
  | _ => none }
def OctetReadsWrongFalsely : Prop := octetReadsRow.holds Try.pinned (OpenSpec.ofChange octetReadsWrong)

/-- 'viaductlaw01.OctetWrong': WHATEVER THE INPUT: true; the input reads as it did. -/
def octetWrongSpec : ChangeSpec := { name := "octetWrong", fn := fun _ => fun
  | [d1, d2] => { results := [.lit (.bool true)], args := [d1, d2] }
  | _ => none }
def octetWrongRow : OpenClaim := { program := "ytkjfemkmooepnaa", sum := "a4d9cb9b0440e301839d8f8660b8f032b44c7484587caa33a41256fab139a75d", func := "viaduct/viaductlaw01.OctetWrong", spec := "octetWrong", apart := false }
def OctetWrongSaid : Prop := octetWrongRow.holds Try.pinned (OpenSpec.ofChange octetWrongSpec)

/-- ITS FALSE NEIGHBOUR: 'it returns false'. Refute it at one input. -/
def octetWrongWrong : ChangeSpec := { name := "octetWrong", fn := fun _ => fun
  | [d1, d2] => { results := [.lit (.bool false)], args := [d1, d2] }
  | _ => none }
def OctetWrongWrongFalsely : Prop := octetWrongRow.holds Try.pinned (OpenSpec.ofChange octetWrongWrong)

/-- 'viaductlaw01.OctetNobody': WHATEVER THE INPUT: true; the input reads as it did. -/
def octetNobodySpec : ChangeSpec := { name := "octetNobody", fn := fun _ => fun
  | [d] => { results := [.lit (.bool true)], args := [d] }
  | _ => none }
def octetNobodyRow : OpenClaim := { program := "ytkjfemkmooepnaa", sum := "a4d9cb9b0440e301839d8f8660b8f032b44c7484587caa33a41256fab139a75d", func := "viaduct/viaductlaw01.OctetNobody", spec := "octetNobody", apart := false }
def OctetNobodySaid : Prop := octetNobodyRow.holds Try.pinned (OpenSpec.ofChange octetNobodySpec)

/-- ITS FALSE NEIGHBOUR: 'it returns false'. Refute it at one input. -/
def octetNobodyWrong : ChangeSpec := { name := "octetNobody", fn := fun _ => fun
  | [d] => { results := [.lit (.bool false)], args := [d] }
  | _ => none }
def OctetNobodyWrongFalsely : Prop := octetNobodyRow.holds Try.pinned (OpenSpec.ofChange octetNobodyWrong)

/- THE SECOND FORM. 'bulk': how many values and letters a reading holds, each counted each time it is reached (what is shared counts as often as it is met; a slice's spare places count too). A statement '..UptoSaid' is the law's where the arguments, and the package variables that the reading takes, are together of bulk at most 1048576: NARROWER than '..Said'. Prove '..Said' where nothing that the law and all that it calls make is longer than what came in: it says more and counts as full. Else prove '..UptoSaid'. A law counts once. -/
mutual
def uptoBulk {H : Type} : DataW H → Nat
  | .lit (.string bytes) => bytes.length + 1
  | .lit _ => 1
  | .nil => 1
  | .ptr d => uptoBulk d + 1
  | .slice elems spare => uptoBulkAll elems + uptoBulkAll spare + 1
  | .agg parts => uptoBulkAll parts + 1
  | .iface _ d => uptoBulk d + 1
  | .map entries => uptoBulkEntries entries + 1
  | .held _ => 1
def uptoBulkAll {H : Type} : List (DataW H) → Nat
  | [] => 0
  | d :: r => uptoBulk d + uptoBulkAll r
def uptoBulkEntries {H : Type} : List (Lit × DataW H) → Nat
  | [] => 0
  | x :: r => uptoBulkEntry x + uptoBulkEntries r
def uptoBulkEntry {H : Type} : Lit × DataW H → Nat
  | (.string bytes, d) => bytes.length + uptoBulk d + 1
  | (_, d) => uptoBulk d + 1
 end
def uptoSmall : (H : Type) → List (DataW H) → Bool := fun _ ds => decide (uptoBulkAll ds ≤ 1048576)
def OpenSpec.upto (s : _root_.Go.ChangeSpec) : _root_.Go.OpenSpec := { _root_.Go.OpenSpec.ofChange s with cond := some uptoSmall }

/-- 'viaductlaw01.OctetPuts', WHERE WHAT IT READS IS OF BULK AT MOST 1048576: true; the input reads as it did. -/
def octetPutsUptoRow : OpenClaim := { program := "ytkjfemkmooepnaa", sum := "a4d9cb9b0440e301839d8f8660b8f032b44c7484587caa33a41256fab139a75d", func := "viaduct/viaductlaw01.OctetPuts", spec := "octetPuts", apart := false, narrowed := true }
def OctetPutsUptoSaid : Prop := octetPutsUptoRow.holds Try.pinned (OpenSpec.upto octetPutsSpec)

/-- 'viaductlaw01.OctetBack', WHERE WHAT IT READS IS OF BULK AT MOST 1048576: true; the input reads as it did. -/
def octetBackUptoRow : OpenClaim := { program := "ytkjfemkmooepnaa", sum := "a4d9cb9b0440e301839d8f8660b8f032b44c7484587caa33a41256fab139a75d", func := "viaduct/viaductlaw01.OctetBack", spec := "octetBack", apart := false, narrowed := true }
def OctetBackUptoSaid : Prop := octetBackUptoRow.holds Try.pinned (OpenSpec.upto octetBackSpec)

/-- 'viaductlaw01.OctetPads', WHERE WHAT IT READS IS OF BULK AT MOST 1048576: true; the input reads as it did. -/
def octetPadsUptoRow : OpenClaim := { program := "ytkjfemkmooepnaa", sum := "a4d9cb9b0440e301839d8f8660b8f032b44c7484587caa33a41256fab139a75d", func := "viaduct/viaductlaw01.OctetPads", spec := "octetPads", apart := false, narrowed := true }
def OctetPadsUptoSaid : Prop := octetPadsUptoRow.holds Try.pinned (OpenSpec.upto octetPadsSpec)

/-- 'viaductlaw01.OctetReads', WHERE WHAT IT READS IS OF BULK AT MOST 1048576: true; the input reads as it did. -/
def octetReadsUptoRow : OpenClaim := { program := "ytkjfemkmooepnaa", sum := "a4d9cb9b0440e301839d8f8660b8f032b44c7484587caa33a41256fab139a75d", func := "viaduct/viaductlaw01.OctetReads", spec := "octetReads", apart := false, narrowed := true }
def OctetReadsUptoSaid : Prop := octetReadsUptoRow.holds Try.pinned (OpenSpec.upto octetReadsSpec)

/-- 'viaductlaw01.OctetWrong', WHERE WHAT IT READS IS OF BULK AT MOST 1048576: true; the input reads as it did. -/
def octetWrongUptoRow : OpenClaim := { program := "ytkjfemkmooepnaa", sum := "a4d9cb9b0440e301839d8f8660b8f032b44c7484587caa33a41256fab139a75d", func := "viaduct/viaductlaw01.OctetWrong", spec := "octetWrong", apart := false, narrowed := true }
def OctetWrongUptoSaid : Prop := octetWrongUptoRow.holds Try.pinned (OpenSpec.upto octetWrongSpec)

/-- 'viaductlaw01.OctetNobody', WHERE WHAT IT READS IS OF BULK AT MOST 1048576: true; the input reads as it did. -/
def octetNobodyUptoRow : OpenClaim := { program := "ytkjfemkmooepnaa", sum := "a4d9cb9b0440e301839d8f8660b8f032b44c7484587caa33a41256fab139a75d", func := "viaduct/viaductlaw01.OctetNobody", spec := "octetNobody", apart := false, narrowed := true }
def OctetNobodyUptoSaid : Prop := octetNobodyUptoRow.holds Try.pinned (OpenSpec.upto octetNobodySpec)

end Rows
end Go.Proofs.Ytkjfemkmooepnaa
