/-
  No cell of these rows narrows 'for every input' (looked for: loops, veiled, ifaces, maps, wideKeys, modest, calm, conditions, laid).
  DERIVED. THE GIVEN ROWS OF THIS SEAT. 4 by the template 'for every input the law returns true; each argument reads behind the call as it read before'; 0 by the template 'total and deterministic' (their statements: YtmpkopkibkjgfaaTotals.lean).
  GIVEN WITH THE SEED: the statements are not yours to turn. If you find one false, say at which input.
  Laid BY PROGRAM, IN A SANDBOX (cutbox-rows.mjs): the forced cells as the released guide's own fill.sh prints them over the translation 201c53d9e56d83cb… (all of the seat's roots in one cut). By AI agents, Wed Nov 11 2026. No macro, syntax, notation, axiom, sorry.
-/
import Derived.Test.YtmpkopkibkjgfaaChecked
import GoSem.Claim
import GoSem.ClaimJoined
import GoSem.ClaimMapViews
import Derived.JoinedTies
import Derived.KernelRfl
namespace Go.Proofs.Ytmpkopkibkjgfaa
/- THE CELL 'sum', in the pinned program and in every row, IS THE sha256 OF THE DUMP (.gsa) THAT YtmpkopkibkjgfaaProg.lean LOADS. Nothing in Lean hashes anything: it is a label: what it is worth is what the hold of that sum in a sandbox is worth. -/
noncomputable def Try.pinned : Pinned := { name := "ytmpkopkibkjgfaa", sum := "201c53d9e56d83cbdc616719b7a1df62d3d3b84ddbdf20e0ff9526d4af2f4696", checked := Try.checked }
namespace Rows
def none {H : Type} : Left H := { results := [], args := [] }

/-- 'mastheadlaw11.BitWrites': WHATEVER THE INPUT: true; the input reads as it did. -/
def bitWritesSpec : ChangeSpec := { name := "bitWrites", fn := fun _ => fun
  | [d] => { results := [.lit (.bool true)], args := [d] }
  | _ => none }
def bitWritesRow : OpenClaim := { program := "ytmpkopkibkjgfaa", sum := "201c53d9e56d83cbdc616719b7a1df62d3d3b84ddbdf20e0ff9526d4af2f4696", func := "masthead/mastheadlaw11.BitWrites", spec := "bitWrites", apart := false }
def BitWritesSaid : Prop := bitWritesRow.holds Try.pinned (OpenSpec.ofChange bitWritesSpec)

/-- ITS FALSE NEIGHBOUR: 'it returns false'. Refute it at one input. -/
def bitWritesWrong : ChangeSpec := { name := "bitWrites", fn := fun _ => fun
  | [d] => { results := [.lit (.bool false)], args := [d] }
  | _ => none }
def BitWritesWrongFalsely : Prop := bitWritesRow.holds Try.pinned (OpenSpec.ofChange bitWritesWrong)

/-- 'mastheadlaw11.BitParts': WHATEVER THE INPUT: true; the input reads as it did. -/
def bitPartsSpec : ChangeSpec := { name := "bitParts", fn := fun _ => fun
  | [d1, d2, d3] => { results := [.lit (.bool true)], args := [d1, d2, d3] }
  | _ => none }
def bitPartsRow : OpenClaim := { program := "ytmpkopkibkjgfaa", sum := "201c53d9e56d83cbdc616719b7a1df62d3d3b84ddbdf20e0ff9526d4af2f4696", func := "masthead/mastheadlaw11.BitParts", spec := "bitParts", apart := false }
def BitPartsSaid : Prop := bitPartsRow.holds Try.pinned (OpenSpec.ofChange bitPartsSpec)

/-- ITS FALSE NEIGHBOUR: 'it returns false'. Refute it at one input. -/
def bitPartsWrong : ChangeSpec := { name := "bitParts", fn := fun _ => fun
  | [d1, d2, d3] => { results := [.lit (.bool false)], args := [d1, d2, d3] }
  | _ => none }
def BitPartsWrongFalsely : Prop := bitPartsRow.holds Try.pinned (OpenSpec.ofChange bitPartsWrong)

/-- 'mastheadlaw11.BitReads': WHATEVER THE INPUT: true; the input reads as it did. -/
def bitReadsSpec : ChangeSpec := { name := "bitReads", fn := fun _ => fun
  | [d1, d2] => { results := [.lit (.bool true)], args := [d1, d2] }
  | _ => none }
def bitReadsRow : OpenClaim := { program := "ytmpkopkibkjgfaa", sum := "201c53d9e56d83cbdc616719b7a1df62d3d3b84ddbdf20e0ff9526d4af2f4696", func := "masthead/mastheadlaw11.BitReads", spec := "bitReads", apart := false }
def BitReadsSaid : Prop := bitReadsRow.holds Try.pinned (OpenSpec.ofChange bitReadsSpec)

/-- ITS FALSE NEIGHBOUR: 'it returns false'. Refute it at one input. -/
def bitReadsWrong : ChangeSpec := { name := "bitReads", fn := fun _ => fun
  | [d1, d2] => { results := [.lit (.bool false)], args := [d1, d2] }
  | _ => none }
def BitReadsWrongFalsely : Prop := bitReadsRow.holds Try.pinned (OpenSpec.ofChange bitReadsWrong)

/-- 'mastheadlaw11.BitBack': WHATEVER THE INPUT: true; the input reads as it did. -/
def bitBackSpec : ChangeSpec := { name := "bitBack", fn := fun _ => fun
  | [d] => { results := [.lit (.bool true)], args := [d] }
  | _ => none }
def bitBackRow : OpenClaim := { program := "ytmpkopkibkjgfaa", sum := "201c53d9e56d83cbdc616719b7a1df62d3d3b84ddbdf20e0ff9526d4af2f4696", func := "masthead/mastheadlaw11.BitBack", spec := "bitBack", apart := false }
def BitBackSaid : Prop := bitBackRow.holds Try.pinned (OpenSpec.ofChange bitBackSpec)

/-- ITS FALSE NEIGHBOUR: 'it returns false'. Refute it at one input. -/
def bitBackWrong : ChangeSpec := { name := "bitBack", fn := fun _ => fun
  | [d] => { results := [.lit (.bool false)], args := [d] }
  | _ => none }
def BitBackWrongFalsely : Prop := bitBackRow.holds Try.pinned (OpenSpec.ofChange bitBackWrong)

/- THE SECOND FORM. 'bulk': how many values and letters a reading holds, each counted each time it is reached (what is shared counts as often as it is met; a slice's spare places count too). A statement '..UptoSaid' is the law's where the arguments, and the package variables that the reading takes, are together of bulk at most 1048576: NARROWER than '..Said'. Prove '..Said' where nothing that the law and all that it calls make is longer than what came in: it says more and counts as full. Else prove '..UptoSaid'. A law counts once. -/
mutual
def uptoBulk {H : Type} : DataW H → Nat
  | .lit (.string bytes) => bytes.length + 1
  | .lit _ => 1
  | .nil => 1
  | .ptr d => uptoBulk d + 1
  | .slice elems spare => uptoBulkAll elems + uptoBulkAll spare + 1
  | .agg parts => uptoBulkAll parts + 1
  | .iface _ d => uptoBulk d + 1
  | .map entries => uptoBulkEntries entries + 1
  | .held _ => 1
def uptoBulkAll {H : Type} : List (DataW H) → Nat
  | [] => 0
  | d :: r => uptoBulk d + uptoBulkAll r
def uptoBulkEntries {H : Type} : List (Lit × DataW H) → Nat
  | [] => 0
  | x :: r => uptoBulkEntry x + uptoBulkEntries r
def uptoBulkEntry {H : Type} : Lit × DataW H → Nat
  | (.string bytes, d) => bytes.length + uptoBulk d + 1
  | (_, d) => uptoBulk d + 1
 end
def uptoSmall : (H : Type) → List (DataW H) → Bool := fun _ ds => decide (uptoBulkAll ds ≤ 1048576)
def OpenSpec.upto (s : _root_.Go.ChangeSpec) : _root_.Go.OpenSpec := { _root_.Go.OpenSpec.ofChange s with cond := some uptoSmall }

/-- 'mastheadlaw11.BitWrites', WHERE WHAT IT READS IS OF BULK AT MOST 1048576: true; the input reads as it did. -/
def bitWritesUptoRow : OpenClaim := { program := "ytmpkopkibkjgfaa", sum := "201c53d9e56d83cbdc616719b7a1df62d3d3b84ddbdf20e0ff9526d4af2f4696", func := "masthead/mastheadlaw11.BitWrites", spec := "bitWrites", apart := false, narrowed := true }
def BitWritesUptoSaid : Prop := bitWritesUptoRow.holds Try.pinned (OpenSpec.upto bitWritesSpec)

/-- 'mastheadlaw11.BitParts', WHERE WHAT IT READS IS OF BULK AT MOST 1048576: true; the input reads as it did. -/
def bitPartsUptoRow : OpenClaim := { program := "ytmpkopkibkjgfaa", sum := "201c53d9e56d83cbdc616719b7a1df62d3d3b84ddbdf20e0ff9526d4af2f4696", func := "masthead/mastheadlaw11.BitParts", spec := "bitParts", apart := false, narrowed := true }
def BitPartsUptoSaid : Prop := bitPartsUptoRow.holds Try.pinned (OpenSpec.upto bitPartsSpec)

/-- 'mastheadlaw11.BitReads', WHERE WHAT IT READS IS OF BULK AT MOST 1048576: true; the input reads as it did. -/
def bitReadsUptoRow : OpenClaim := { program := "ytmpkopkibkjgfaa", sum := "201c53d9e56d83cbdc616719b7a1df62d3d3b84ddbdf20e0ff9526d4af2f4696", func := "masthead/mastheadlaw11.BitReads", spec := "bitReads", apart := false, narrowed := true }
def BitReadsUptoSaid : Prop := bitReadsUptoRow.holds Try.pinned (OpenSpec.upto bitReadsSpec)

/-- 'mastheadlaw11.BitBack', WHERE WHAT IT READS IS OF BULK AT MOST 1048576: true; the input reads as it did. -/
def bitBackUptoRow : OpenClaim := { program := "ytmpkopkibkjgfaa", sum := "201c53d9e56d83cbdc616719b7a1df62d3d3b84ddbdf20e0ff9526d4af2f4696", func := "masthead/mastheadlaw11.BitBack", spec := "bitBack", apart := false, narrowed := true }
def BitBackUptoSaid : Prop := bitBackUptoRow.holds Try.pinned (OpenSpec.upto bitBackSpec)

end Rows
end Go.Proofs.Ytmpkopkibkjgfaa
