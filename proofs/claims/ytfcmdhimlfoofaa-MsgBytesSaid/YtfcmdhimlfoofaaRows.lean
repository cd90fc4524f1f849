/-
  No cell of these rows narrows 'for every input' (looked for: loops, veiled, ifaces, maps, wideKeys, modest, calm, conditions, laid).
  DERIVED. THE GIVEN ROWS OF THIS SEAT. 5 by the template 'for every input the law returns true; each argument reads behind the call as it read before'; 0 by the template 'total and deterministic' (their statements: YtfcmdhimlfoofaaTotals.lean).
  GIVEN WITH THE SEED: the statements are not yours to turn. If you find one false, say at which input.
  Laid BY PROGRAM, IN A SANDBOX (cutbox-rows.mjs): the forced cells as the released guide's own fill.sh prints them over the translation 012876942c442047… (all of the seat's roots in one cut). By AI agents, Wed Nov 11 2026. No macro, syntax, notation, axiom, sorry.
-/
import Derived.Test.YtfcmdhimlfoofaaChecked
import GoSem.Claim
import GoSem.ClaimJoined
import GoSem.ClaimMapViews
import Derived.JoinedTies
import Derived.KernelRfl
namespace Go.Proofs.Ytfcmdhimlfoofaa
/- THE CELL 'sum', in the pinned program and in every row, IS THE sha256 OF THE DUMP (.gsa) THAT YtfcmdhimlfoofaaProg.lean LOADS. Nothing in Lean hashes anything: it is a label: what it is worth is what the hold of that sum in a sandbox is worth. -/
noncomputable def Try.pinned : Pinned := { name := "ytfcmdhimlfoofaa", sum := "012876942c4420475c6d8c1339ce329ce61ee110cc01be89d4c87e9735c3be9c", checked := Try.checked }
namespace Rows
def none {H : Type} : Left H := { results := [], args := [] }

/-- 'mastheadlaw16.MsgNames': WHATEVER THE INPUT: true; the input reads as it did. -/
def msgNamesSpec : ChangeSpec := { name := "msgNames", fn := fun _ => fun
  | [d1, d2] => { results := [.lit (.bool true)], args := [d1, d2] }
  | _ => none }
def msgNamesRow : OpenClaim := { program := "ytfcmdhimlfoofaa", sum := "012876942c4420475c6d8c1339ce329ce61ee110cc01be89d4c87e9735c3be9c", func := "masthead/mastheadlaw16.MsgNames", spec := "msgNames", apart := false }
def MsgNamesSaid : Prop := msgNamesRow.holds Try.pinned (OpenSpec.ofChange msgNamesSpec)

/-- ITS FALSE NEIGHBOUR: 'it returns false'. Refute it at one input. -/
def msgNamesWrong : ChangeSpec := { name := "msgNames", fn := fun _ => fun
  | [d1, d2] => { results := [.lit (.bool false)], args := [d1, d2] }
  | _ => none }
def MsgNamesWrongFalsely : Prop := msgNamesRow.holds Try.pinned (OpenSpec.ofChange msgNamesWrong)

/-- 'mastheadlaw16.MsgBytes': WHATEVER THE INPUT: true; the input reads as it did. -/
def msgBytesSpec : ChangeSpec := { name := "msgBytes", fn := fun _ => fun
  | [d] => { results := [.lit (.bool true)], args := [d] }
  | _ => none }
def msgBytesRow : OpenClaim := { program := "ytfcmdhimlfoofaa", sum := "012876942c4420475c6d8c1339ce329ce61ee110cc01be89d4c87e9735c3be9c", func := "masthead/mastheadlaw16.MsgBytes", spec := "msgBytes", apart := false }
def MsgBytesSaid : Prop := msgBytesRow.holds Try.pinned (OpenSpec.ofChange msgBytesSpec)

/-- ITS FALSE NEIGHBOUR: 'it returns false'. Refute it at one input. -/
def msgBytesWrong : ChangeSpec := { name := "msgBytes", fn := fun _ => fun
  | [d] => { results := [.lit (.bool false)], args := [d] }
  | _ => none }
def MsgBytesWrongFalsely : Prop := msgBytesRow.holds Try.pinned (OpenSpec.ofChange msgBytesWrong)

/-- 'mastheadlaw16.MsgParses': WHATEVER THE INPUT: true; the input reads as it did. -/
def msgParsesSpec : ChangeSpec := { name := "msgParses", fn := fun _ => fun
  | [d] => { results := [.lit (.bool true)], args := [d] }
  | _ => none }
def msgParsesRow : OpenClaim := { program := "ytfcmdhimlfoofaa", sum := "012876942c4420475c6d8c1339ce329ce61ee110cc01be89d4c87e9735c3be9c", func := "masthead/mastheadlaw16.MsgParses", spec := "msgParses", apart := false }
def MsgParsesSaid : Prop := msgParsesRow.holds Try.pinned (OpenSpec.ofChange msgParsesSpec)

/-- ITS FALSE NEIGHBOUR: 'it returns false'. Refute it at one input. -/
def msgParsesWrong : ChangeSpec := { name := "msgParses", fn := fun _ => fun
  | [d] => { results := [.lit (.bool false)], args := [d] }
  | _ => none }
def MsgParsesWrongFalsely : Prop := msgParsesRow.holds Try.pinned (OpenSpec.ofChange msgParsesWrong)

/-- 'mastheadlaw16.MsgCuts': WHATEVER THE INPUT: true; the input reads as it did. -/
def msgCutsSpec : ChangeSpec := { name := "msgCuts", fn := fun _ => fun
  | [d1, d2, d3] => { results := [.lit (.bool true)], args := [d1, d2, d3] }
  | _ => none }
def msgCutsRow : OpenClaim := { program := "ytfcmdhimlfoofaa", sum := "012876942c4420475c6d8c1339ce329ce61ee110cc01be89d4c87e9735c3be9c", func := "masthead/mastheadlaw16.MsgCuts", spec := "msgCuts", apart := false }
def MsgCutsSaid : Prop := msgCutsRow.holds Try.pinned (OpenSpec.ofChange msgCutsSpec)

/-- ITS FALSE NEIGHBOUR: 'it returns false'. Refute it at one input. -/
def msgCutsWrong : ChangeSpec := { name := "msgCuts", fn := fun _ => fun
  | [d1, d2, d3] => { results := [.lit (.bool false)], args := [d1, d2, d3] }
  | _ => none }
def MsgCutsWrongFalsely : Prop := msgCutsRow.holds Try.pinned (OpenSpec.ofChange msgCutsWrong)

/-- 'mastheadlaw16.MsgHeads': WHATEVER THE INPUT: true; the input reads as it did. -/
def msgHeadsSpec : ChangeSpec := { name := "msgHeads", fn := fun _ => fun
  | [d1, d2] => { results := [.lit (.bool true)], args := [d1, d2] }
  | _ => none }
def msgHeadsRow : OpenClaim := { program := "ytfcmdhimlfoofaa", sum := "012876942c4420475c6d8c1339ce329ce61ee110cc01be89d4c87e9735c3be9c", func := "masthead/mastheadlaw16.MsgHeads", spec := "msgHeads", apart := false }
def MsgHeadsSaid : Prop := msgHeadsRow.holds Try.pinned (OpenSpec.ofChange msgHeadsSpec)

/-- ITS FALSE NEIGHBOUR: 'it returns false'. Refute it at one input. -/
def msgHeadsWrong : ChangeSpec := { name := "msgHeads", fn := fun _ => fun
  | [d1, d2] => { results := [.lit (.bool false)], args := [d1, d2] }
  | _ => none }
def MsgHeadsWrongFalsely : Prop := msgHeadsRow.holds Try.pinned (OpenSpec.ofChange msgHeadsWrong)

/- THE SECOND FORM. 'bulk': how many values and letters a reading holds, each counted each time it is reached (what is shared counts as often as it is met; a slice's spare places count too). A statement '..UptoSaid' is the law's where the arguments, and the package variables that the reading takes, are together of bulk at most 1048576: NARROWER than '..Said'. Prove '..Said' where nothing that the law and all that it calls make is longer than what came in: it says more and counts as full. Else prove '..UptoSaid'. A law counts once. -/
mutual
def uptoBulk {H : Type} : DataW H → Nat
  | .lit (.string bytes) => bytes.length + 1
  | .lit _ => 1
  | .nil => 1
  | .ptr d => uptoBulk d + 1
  | .slice elems spare => uptoBulkAll elems + uptoBulkAll spare + 1
  | .agg parts => uptoBulkAll parts + 1
  | .iface _ d => uptoBulk d + 1
  | .map entries => uptoBulkEntries entries + 1
  | .held _ => 1
def uptoBulkAll {H : Type} : List (DataW H) → Nat
  | [] => 0
  | d :: r => uptoBulk d + uptoBulkAll r
def uptoBulkEntries {H : Type} : List (Lit × DataW H) → Nat
  | [] => 0
  | x :: r => uptoBulkEntry x + uptoBulkEntries r
def uptoBulkEntry {H : Type} : Lit × DataW H → Nat
  | (.string bytes, d) => bytes.length + uptoBulk d + 1
  | (_, d) => uptoBulk d + 1
 end
def uptoSmall : (H : Type) → List (DataW H) → Bool := fun _ ds => decide (uptoBulkAll ds ≤ 1048576)
def OpenSpec.upto (s : _root_.Go.ChangeSpec) : _root_.Go.OpenSpec := { _root_.Go.OpenSpec.ofChange s with cond := some uptoSmall }

/-- 'mastheadlaw16.MsgNames', WHERE WHAT IT READS IS OF BULK AT MOST 1048576: true; the input reads as it did. -/
def msgNamesUptoRow : OpenClaim := { program := "ytfcmdhimlfoofaa", sum := "012876942c4420475c6d8c1339ce329ce61ee110cc01be89d4c87e9735c3be9c", func := "masthead/mastheadlaw16.MsgNames", spec := "msgNames", apart := false, narrowed := true }
def MsgNamesUptoSaid : Prop := msgNamesUptoRow.holds Try.pinned (OpenSpec.upto msgNamesSpec)

/-- 'mastheadlaw16.MsgBytes', WHERE WHAT IT READS IS OF BULK AT MOST 1048576: true; the input reads as it did. -/
def msgBytesUptoRow : OpenClaim := { program := "ytfcmdhimlfoofaa", sum := "012876942c4420475c6d8c1339ce329ce61ee110cc01be89d4c87e9735c3be9c", func := "masthead/mastheadlaw16.MsgBytes", spec := "msgBytes", apart := false, narrowed := true }
def MsgBytesUptoSaid : Prop := msgBytesUptoRow.holds Try.pinned (OpenSpec.upto msgBytesSpec)

/-- 'mastheadlaw16.MsgParses', WHERE WHAT IT READS IS OF BULK AT MOST 1048576: true; the input reads as it did. -/
def msgParsesUptoRow : OpenClaim := { program := "ytfcmdhimlfoofaa", sum := "012876942c4420475c6d8c1339ce329ce61ee110cc01be89d4c87e9735c3be9c", func := "masthead/mastheadlaw16.MsgParses", spec := "msgParses", apart := false, narrowed := true }
def MsgParsesUptoSaid : Prop := msgParsesUptoRow.holds Try.pinned (OpenSpec.upto msgParsesSpec)

/-- 'mastheadlaw16.MsgCuts', WHERE WHAT IT READS IS OF BULK AT MOST 1048576: true; the input reads as it did. -/
def msgCutsUptoRow : OpenClaim := { program := "ytfcmdhimlfoofaa", sum := "012876942c4420475c6d8c1339ce329ce61ee110cc01be89d4c87e9735c3be9c", func := "masthead/mastheadlaw16.MsgCuts", spec := "msgCuts", apart := false, narrowed := true }
def MsgCutsUptoSaid : Prop := msgCutsUptoRow.holds Try.pinned (OpenSpec.upto msgCutsSpec)

/-- 'mastheadlaw16.MsgHeads', WHERE WHAT IT READS IS OF BULK AT MOST 1048576: true; the input reads as it did. -/
def msgHeadsUptoRow : OpenClaim := { program := "ytfcmdhimlfoofaa", sum := "012876942c4420475c6d8c1339ce329ce61ee110cc01be89d4c87e9735c3be9c", func := "masthead/mastheadlaw16.MsgHeads", spec := "msgHeads", apart := false, narrowed := true }
def MsgHeadsUptoSaid : Prop := msgHeadsUptoRow.holds Try.pinned (OpenSpec.upto msgHeadsSpec)

end Rows
end Go.Proofs.Ytfcmdhimlfoofaa
