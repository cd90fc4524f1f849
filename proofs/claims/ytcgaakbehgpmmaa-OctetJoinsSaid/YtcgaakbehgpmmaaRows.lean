/-
  No cell of these rows narrows 'for every input' (looked for: loops, veiled, ifaces, maps, wideKeys, modest, calm, conditions, laid).
  DERIVED. THE GIVEN ROWS OF THIS SEAT. 7 by the template 'for every input the law returns true; each argument reads behind the call as it read before'; 0 by the template 'total and deterministic' (their statements: YtcgaakbehgpmmaaTotals.lean).
  GIVEN WITH THE SEED: the statements are not yours to turn. If you find one false, say at which input.
  Laid BY PROGRAM, IN A SANDBOX (cutbox-rows.mjs): the forced cells as the released guide's own fill.sh prints them over the translation e0f63bea6a8554b6… (all of the seat's roots in one cut). By AI agents, Wed Nov 11 2026. No macro, syntax, notation, axiom, sorry.
-/
import Derived.Test.YtcgaakbehgpmmaaChecked
import GoSem.Claim
import GoSem.ClaimJoined
import GoSem.ClaimMapViews
import Derived.JoinedTies
import Derived.KernelRfl
namespace Go.Proofs.Ytcgaakbehgpmmaa
/- THE CELL 'sum', in the pinned program and in every row, IS THE sha256 OF THE DUMP (.gsa) THAT YtcgaakbehgpmmaaProg.lean LOADS. Nothing in Lean hashes anything: it is a label: what it is worth is what the hold of that sum in a sandbox is worth. -/
noncomputable def Try.pinned : Pinned := { name := "ytcgaakbehgpmmaa", sum := "e0f63bea6a8554b6e88459a10d733b54df4d5d3472afcf2a0cfc0eb6a3e1c792", checked := Try.checked }
namespace Rows
def none {H : Type} : Left H := { results := [], args := [] }

/-- 'mastheadlaw01.OctetBytes': WHATEVER THE INPUT: true; the input reads as it did. -/
def octetBytesSpec : ChangeSpec := { name := "octetBytes", fn := fun _ => fun
  | [d1, d2] => { results := [.lit (.bool true)], args := [d1, d2] }
  | _ => none }
def octetBytesRow : OpenClaim := { program := "ytcgaakbehgpmmaa", sum := "e0f63bea6a8554b6e88459a10d733b54df4d5d3472afcf2a0cfc0eb6a3e1c792", func := "masthead/mastheadlaw01.OctetBytes", spec := "octetBytes", apart := false }
def OctetBytesSaid : Prop := octetBytesRow.holds Try.pinned (OpenSpec.ofChange octetBytesSpec)

/-- ITS FALSE NEIGHBOUR: 'it returns false'. Refute it at one input. -/
def octetBytesWrong : ChangeSpec := { name := "octetBytes", fn := fun _ => fun
  | [d1, d2] => { results := [.lit (.bool false)], args := [d1, d2] }
  | _ => none }
def OctetBytesWrongFalsely : Prop := octetBytesRow.holds Try.pinned (OpenSpec.ofChange octetBytesWrong)

/-- 'mastheadlaw01.OctetTurns': WHATEVER THE INPUT: true; the input reads as it did. -/
def octetTurnsSpec : ChangeSpec := { name := "octetTurns", fn := fun _ => fun
  | [d1, d2] => { results := [.lit (.bool true)], args := [d1, d2] }
  | _ => none }
def octetTurnsRow : OpenClaim := { program := "ytcgaakbehgpmmaa", sum := "e0f63bea6a8554b6e88459a10d733b54df4d5d3472afcf2a0cfc0eb6a3e1c792", func := "masthead/mastheadlaw01.OctetTurns", spec := "octetTurns", apart := false }
def OctetTurnsSaid : Prop := octetTurnsRow.holds Try.pinned (OpenSpec.ofChange octetTurnsSpec)

/-- ITS FALSE NEIGHBOUR: 'it returns false'. Refute it at one input. -/
def octetTurnsWrong : ChangeSpec := { name := "octetTurns", fn := fun _ => fun
  | [d1, d2] => { results := [.lit (.bool false)], args := [d1, d2] }
  | _ => none }
def OctetTurnsWrongFalsely : Prop := octetTurnsRow.holds Try.pinned (OpenSpec.ofChange octetTurnsWrong)

/-- 'mastheadlaw01.OctetNums': WHATEVER THE INPUT: true; the input reads as it did. -/
def octetNumsSpec : ChangeSpec := { name := "octetNums", fn := fun _ => fun
  | [d] => { results := [.lit (.bool true)], args := [d] }
  | _ => none }
def octetNumsRow : OpenClaim := { program := "ytcgaakbehgpmmaa", sum := "e0f63bea6a8554b6e88459a10d733b54df4d5d3472afcf2a0cfc0eb6a3e1c792", func := "masthead/mastheadlaw01.OctetNums", spec := "octetNums", apart := false }
def OctetNumsSaid : Prop := octetNumsRow.holds Try.pinned (OpenSpec.ofChange octetNumsSpec)

/-- ITS FALSE NEIGHBOUR: 'it returns false'. Refute it at one input. -/
def octetNumsWrong : ChangeSpec := { name := "octetNums", fn := fun _ => fun
  | [d] => { results := [.lit (.bool false)], args := [d] }
  | _ => none }
def OctetNumsWrongFalsely : Prop := octetNumsRow.holds Try.pinned (OpenSpec.ofChange octetNumsWrong)

/-- 'mastheadlaw01.OctetBack': WHATEVER THE INPUT: true; the input reads as it did. -/
def octetBackSpec : ChangeSpec := { name := "octetBack", fn := fun _ => fun
  | [d1, d2] => { results := [.lit (.bool true)], args := [d1, d2] }
  | _ => none }
def octetBackRow : OpenClaim := { program := "ytcgaakbehgpmmaa", sum := "e0f63bea6a8554b6e88459a10d733b54df4d5d3472afcf2a0cfc0eb6a3e1c792", func := "masthead/mastheadlaw01.OctetBack", spec := "octetBack", apart := false }
def OctetBackSaid : Prop := octetBackRow.holds Try.pinned (OpenSpec.ofChange octetBackSpec)

/-- ITS FALSE NEIGHBOUR: 'it returns false'. Refute it at one input. -/
def octetBackWrong : ChangeSpec := { name := "octetBack", fn := fun _ => fun
  | [d1, d2] => { results := [.lit (.bool false)], args := [d1, d2] }
  | _ => none }
def OctetBackWrongFalsely : Prop := octetBackRow.holds Try.pinned (OpenSpec.ofChange octetBackWrong)

/-- 'mastheadlaw01.OctetReads': WHATEVER THE INPUT: true; the input reads as it did. -/
def octetReadsSpec : ChangeSpec := { name := "octetReads", fn := fun _ => fun
  | [d] => { results := [.lit (.bool true)], args := [d] }
  | _ => none }
def octetReadsRow : OpenClaim := { program := "ytcgaakbehgpmmaa", sum := "e0f63bea6a8554b6e88459a10d733b54df4d5d3472afcf2a0cfc0eb6a3e1c792", func := "masthead/mastheadlaw01.OctetReads", spec := "octetReads", apart := false }
def OctetReadsSaid : Prop := octetReadsRow.holds Try.pinned (OpenSpec.ofChange octetReadsSpec)

/-- ITS FALSE NEIGHBOUR: 'it returns false'. Refute it at one input. -/
def octetReadsWrong : ChangeSpec := { name := "octetReads", fn := fun _ => fun
  | [d] => { results := [.lit (.bool false)], args := [d] }
  | _ => none }
def OctetReadsWrongFalsely : Prop := octetReadsRow.holds Try.pinned (OpenSpec.ofChange octetReadsWrong)

/-- 'mastheadlaw01.OctetJoins': WHATEVER THE INPUT: true; the input reads as it did. -/
def octetJoinsSpec : ChangeSpec := { name := "octetJoins", fn := fun _ => fun
  | [d] => { results := [.lit (.bool true)], args := [d] }
  | _ => none }
def octetJoinsRow : OpenClaim := { program := "ytcgaakbehgpmmaa", sum := "e0f63bea6a8554b6e88459a10d733b54df4d5d3472afcf2a0cfc0eb6a3e1c792", func := "masthead/mastheadlaw01.OctetJoins", spec := "octetJoins", apart := false }
def OctetJoinsSaid : Prop := octetJoinsRow.holds Try.pinned (OpenSpec.ofChange octetJoinsSpec)

/-- ITS FALSE NEIGHBOUR: 'it returns false'. Refute it at one input. -/
def octetJoinsWrong : ChangeSpec := { name := "octetJoins", fn := fun _ => fun
  | [d] => { results := [.lit (.bool false)], args := [d] }
  | _ => none }
def OctetJoinsWrongFalsely : Prop := octetJoinsRow.holds Try.pinned (OpenSpec.ofChange octetJoinsWrong)

/-- 'mastheadlaw01.OctetHex': WHATEVER THE INPUT: true; the input reads as it did. -/
def octetHexSpec : ChangeSpec := { name := "octetHex", fn := fun _ => fun
  | [d] => { results := [.lit (.bool true)], args := [d] }
  | _ => none }
def octetHexRow : OpenClaim := { program := "ytcgaakbehgpmmaa", sum := "e0f63bea6a8554b6e88459a10d733b54df4d5d3472afcf2a0cfc0eb6a3e1c792", func := "masthead/mastheadlaw01.OctetHex", spec := "octetHex", apart := false }
def OctetHexSaid : Prop := octetHexRow.holds Try.pinned (OpenSpec.ofChange octetHexSpec)

/-- ITS FALSE NEIGHBOUR: 'it returns false'. Refute it at one input. -/
def octetHexWrong : ChangeSpec := { name := "octetHex", fn := fun _ => fun
  | [d] => { results := [.lit (.bool false)], args := [d] }
  | _ => none }
def OctetHexWrongFalsely : Prop := octetHexRow.holds Try.pinned (OpenSpec.ofChange octetHexWrong)

/- THE SECOND FORM. 'bulk': how many values and letters a reading holds, each counted each time it is reached (what is shared counts as often as it is met; a slice's spare places count too). A statement '..UptoSaid' is the law's where the arguments, and the package variables that the reading takes, are together of bulk at most 1048576: NARROWER than '..Said'. Prove '..Said' where nothing that the law and all that it calls make is longer than what came in: it says more and counts as full. Else prove '..UptoSaid'. A law counts once. -/
mutual
def uptoBulk {H : Type} : DataW H → Nat
  | .lit (.string bytes) => bytes.length + 1
  | .lit _ => 1
  | .nil => 1
  | .ptr d => uptoBulk d + 1
  | .slice elems spare => uptoBulkAll elems + uptoBulkAll spare + 1
  | .agg parts => uptoBulkAll parts + 1
  | .iface _ d => uptoBulk d + 1
  | .map entries => uptoBulkEntries entries + 1
  | .held _ => 1
def uptoBulkAll {H : Type} : List (DataW H) → Nat
  | [] => 0
  | d :: r => uptoBulk d + uptoBulkAll r
def uptoBulkEntries {H : Type} : List (Lit × DataW H) → Nat
  | [] => 0
  | x :: r => uptoBulkEntry x + uptoBulkEntries r
def uptoBulkEntry {H : Type} : Lit × DataW H → Nat
  | (.string bytes, d) => bytes.length + uptoBulk d + 1
  | (_, d) => uptoBulk d + 1
 end
def uptoSmall : (H : Type) → List (DataW H) → Bool := fun _ ds => decide (uptoBulkAll ds ≤ 1048576)
def OpenSpec.upto (s : _root_.Go.ChangeSpec) : _root_.Go.OpenSpec := { _root_.Go.OpenSpec.ofChange s with cond := some uptoSmall }

/-- 'mastheadlaw01.OctetBytes', WHERE WHAT IT READS IS OF BULK AT MOST 1048576: true; the input reads as it did. -/
def octetBytesUptoRow : OpenClaim := { program := "ytcgaakbehgpmmaa", sum := "e0f63bea6a8554b6e88459a10d733b54df4d5d3472afcf2a0cfc0eb6a3e1c792", func := "masthead/mastheadlaw01.OctetBytes", spec := "octetBytes", apart := false, narrowed := true }
def OctetBytesUptoSaid : Prop := octetBytesUptoRow.holds Try.pinned (OpenSpec.upto octetBytesSpec)

/-- 'mastheadlaw01.OctetTurns', WHERE WHAT IT READS IS OF BULK AT MOST 1048576: true; the input reads as it did. -/
def octetTurnsUptoRow : OpenClaim := { program := "ytcgaakbehgpmmaa", sum := "e0f63bea6a8554b6e88459a10d733b54df4d5d3472afcf2a0cfc0eb6a3e1c792", func := "masthead/mastheadlaw01.OctetTurns", spec := "octetTurns", apart := false, narrowed := true }
def OctetTurnsUptoSaid : Prop := octetTurnsUptoRow.holds Try.pinned (OpenSpec.upto octetTurnsSpec)

/-- 'mastheadlaw01.OctetNums', WHERE WHAT IT READS IS OF BULK AT MOST 1048576: true; the input reads as it did. -/
def octetNumsUptoRow : OpenClaim := { program := "ytcgaakbehgpmmaa", sum := "e0f63bea6a8554b6e88459a10d733b54df4d5d3472afcf2a0cfc0eb6a3e1c792", func := "masthead/mastheadlaw01.OctetNums", spec := "octetNums", apart := false, narrowed := true }
def OctetNumsUptoSaid : Prop := octetNumsUptoRow.holds Try.pinned (OpenSpec.upto octetNumsSpec)

/-- 'mastheadlaw01.OctetBack', WHERE WHAT IT READS IS OF BULK AT MOST 1048576: true; the input reads as it did. -/
def octetBackUptoRow : OpenClaim := { program := "ytcgaakbehgpmmaa", sum := "e0f63bea6a8554b6e88459a10d733b54df4d5d3472afcf2a0cfc0eb6a3e1c792", func := "masthead/mastheadlaw01.OctetBack", spec := "octetBack", apart := false, narrowed := true }
def OctetBackUptoSaid : Prop := octetBackUptoRow.holds Try.pinned (OpenSpec.upto octetBackSpec)

/-- 'mastheadlaw01.OctetReads', WHERE WHAT IT READS IS OF BULK AT MOST 1048576: true; the input reads as it did. -/
def octetReadsUptoRow : OpenClaim := { program := "ytcgaakbehgpmmaa", sum := "e0f63bea6a8554b6e88459a10d733b54df4d5d3472afcf2a0cfc0eb6a3e1c792", func := "masthead/mastheadlaw01.OctetReads", spec := "octetReads", apart := false, narrowed := true }
def OctetReadsUptoSaid : Prop := octetReadsUptoRow.holds Try.pinned (OpenSpec.upto octetReadsSpec)

/-- 'mastheadlaw01.OctetJoins', WHERE WHAT IT READS IS OF BULK AT MOST 1048576: true; the input reads as it did. -/
def octetJoinsUptoRow : OpenClaim := { program := "ytcgaakbehgpmmaa", sum := "e0f63bea6a8554b6e88459a10d733b54df4d5d3472afcf2a0cfc0eb6a3e1c792", func := "masthead/mastheadlaw01.OctetJoins", spec := "octetJoins", apart := false, narrowed := true }
def OctetJoinsUptoSaid : Prop := octetJoinsUptoRow.holds Try.pinned (OpenSpec.upto octetJoinsSpec)

/-- 'mastheadlaw01.OctetHex', WHERE WHAT IT READS IS OF BULK AT MOST 1048576: true; the input reads as it did. -/
def octetHexUptoRow : OpenClaim := { program := "ytcgaakbehgpmmaa", sum := "e0f63bea6a8554b6e88459a10d733b54df4d5d3472afcf2a0cfc0eb6a3e1c792", func := "masthead/mastheadlaw01.OctetHex", spec := "octetHex", apart := false, narrowed := true }
def OctetHexUptoSaid : Prop := octetHexUptoRow.holds Try.pinned (OpenSpec.upto octetHexSpec)

end Rows
end Go.Proofs.Ytcgaakbehgpmmaa
