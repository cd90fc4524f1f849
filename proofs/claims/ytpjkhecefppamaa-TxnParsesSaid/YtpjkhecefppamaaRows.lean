/-
  No cell of these rows narrows 'for every input' (looked for: loops, veiled, ifaces, maps, wideKeys, modest, calm, conditions, laid).
  DERIVED. THE GIVEN ROWS OF THIS SEAT. 3 by the template 'for every input the law returns true; each argument reads behind the call as it read before'; 0 by the template 'total and deterministic' (their statements: YtpjkhecefppamaaTotals.lean).
  GIVEN WITH THE SEED: the statements are not yours to turn. If you find one false, say at which input.
  Laid BY PROGRAM, IN A SANDBOX (cutbox-rows.mjs): the forced cells as the released guide's own fill.sh prints them over the translation e4bb7eff85d368bf… (all of the seat's roots in one cut). By AI agents, Wed Nov 11 2026. No macro, syntax, notation, axiom, sorry.
-/
import Derived.Test.YtpjkhecefppamaaChecked
import GoSem.Claim
import GoSem.ClaimJoined
import GoSem.ClaimMapViews
import Derived.JoinedTies
import Derived.KernelRfl
namespace Go.Proofs.Ytpjkhecefppamaa
/- THE CELL 'sum', in the pinned program and in every row, IS THE sha256 OF THE DUMP (.gsa) THAT YtpjkhecefppamaaProg.lean LOADS. Nothing in Lean hashes anything: it is a label: what it is worth is what the hold of that sum in a sandbox is worth. -/
noncomputable def Try.pinned : Pinned := { name := "ytpjkhecefppamaa", sum := "e4bb7eff85d368bfb199d798908d2f59d2b89ba9d1a3fb03971b3ac5a1f82900", checked := Try.checked }
namespace Rows
def none {H : Type} : Left H := { results := [], args := [] }

/-- 'mastheadlaw14.TxnPays': WHATEVER THE INPUT: true; the input reads as it did. -/
def txnPaysSpec : ChangeSpec := { name := "txnPays", fn := fun _ => fun
  | [d1, d2] => { results := [.lit (.bool true)], args := [d1, d2] }
  | _ => none }
def txnPaysRow : OpenClaim := { program := "ytpjkhecefppamaa", sum := "e4bb7eff85d368bfb199d798908d2f59d2b89ba9d1a3fb03971b3ac5a1f82900", func := "masthead/mastheadlaw14.TxnPays", spec := "txnPays", inPlace := ["math/bits.Add64"], apart := false }
def TxnPaysSaid : Prop := txnPaysRow.holds Try.pinned (OpenSpec.ofChange txnPaysSpec)

/-- ITS FALSE NEIGHBOUR: 'it returns false'. Refute it at one input. -/
def txnPaysWrong : ChangeSpec := { name := "txnPays", fn := fun _ => fun
  | [d1, d2] => { results := [.lit (.bool false)], args := [d1, d2] }
  | _ => none }
def TxnPaysWrongFalsely : Prop := txnPaysRow.holds Try.pinned (OpenSpec.ofChange txnPaysWrong)

/-- 'mastheadlaw14.TxnParses': WHATEVER THE INPUT: true; the input reads as it did. -/
def txnParsesSpec : ChangeSpec := { name := "txnParses", fn := fun _ => fun
  | [d] => { results := [.lit (.bool true)], args := [d] }
  | _ => none }
def txnParsesRow : OpenClaim := { program := "ytpjkhecefppamaa", sum := "e4bb7eff85d368bfb199d798908d2f59d2b89ba9d1a3fb03971b3ac5a1f82900", func := "masthead/mastheadlaw14.TxnParses", spec := "txnParses", apart := false }
def TxnParsesSaid : Prop := txnParsesRow.holds Try.pinned (OpenSpec.ofChange txnParsesSpec)

/-- ITS FALSE NEIGHBOUR: 'it returns false'. Refute it at one input. -/
def txnParsesWrong : ChangeSpec := { name := "txnParses", fn := fun _ => fun
  | [d] => { results := [.lit (.bool false)], args := [d] }
  | _ => none }
def TxnParsesWrongFalsely : Prop := txnParsesRow.holds Try.pinned (OpenSpec.ofChange txnParsesWrong)

/-- 'mastheadlaw14.TxnNever': WHATEVER THE INPUT: true; the input reads as it did. -/
def txnNeverSpec : ChangeSpec := { name := "txnNever", fn := fun _ => fun
  | [d1, d2] => { results := [.lit (.bool true)], args := [d1, d2] }
  | _ => none }
def txnNeverRow : OpenClaim := { program := "ytpjkhecefppamaa", sum := "e4bb7eff85d368bfb199d798908d2f59d2b89ba9d1a3fb03971b3ac5a1f82900", func := "masthead/mastheadlaw14.TxnNever", spec := "txnNever", apart := false }
def TxnNeverSaid : Prop := txnNeverRow.holds Try.pinned (OpenSpec.ofChange txnNeverSpec)

/-- ITS FALSE NEIGHBOUR: 'it returns false'. Refute it at one input. -/
def txnNeverWrong : ChangeSpec := { name := "txnNever", fn := fun _ => fun
  | [d1, d2] => { results := [.lit (.bool false)], args := [d1, d2] }
  | _ => none }
def TxnNeverWrongFalsely : Prop := txnNeverRow.holds Try.pinned (OpenSpec.ofChange txnNeverWrong)

/- THE SECOND FORM. 'bulk': how many values and letters a reading holds, each counted each time it is reached (what is shared counts as often as it is met; a slice's spare places count too). A statement '..UptoSaid' is the law's where the arguments, and the package variables that the reading takes, are together of bulk at most 1048576: NARROWER than '..Said'. Prove '..Said' where nothing that the law and all that it calls make is longer than what came in: it says more and counts as full. Else prove '..UptoSaid'. A law counts once. -/
mutual
def uptoBulk {H : Type} : DataW H → Nat
  | .lit (.string bytes) => bytes.length + 1
  | .lit _ => 1
  | .nil => 1
  | .ptr d => uptoBulk d + 1
  | .slice elems spare => uptoBulkAll elems + uptoBulkAll spare + 1
  | .agg parts => uptoBulkAll parts + 1
  | .iface _ d => uptoBulk d + 1
  | .map entries => uptoBulkEntries entries + 1
  | .held _ => 1
def uptoBulkAll {H : Type} : List (DataW H) → Nat
  | [] => 0
  | d :: r => uptoBulk d + uptoBulkAll r
def uptoBulkEntries {H : Type} : List (Lit × DataW H) → Nat
  | [] => 0
  | x :: r => uptoBulkEntry x + uptoBulkEntries r
def uptoBulkEntry {H : Type} : Lit × DataW H → Nat
  | (.string bytes, d) => bytes.length + uptoBulk d + 1
  | (_, d) => uptoBulk d + 1
 end
def uptoSmall : (H : Type) → List (DataW H) → Bool := fun _ ds => decide (uptoBulkAll ds ≤ 1048576)
def OpenSpec.upto (s : _root_.Go.ChangeSpec) : _root_.Go.OpenSpec := { _root_.Go.OpenSpec.ofChange s with cond := some uptoSmall }

/-- 'mastheadlaw14.TxnPays', WHERE WHAT IT READS IS OF BULK AT MOST 1048576: true; the input reads as it did. -/
def txnPaysUptoRow : OpenClaim := { program := "ytpjkhecefppamaa", sum := "e4bb7eff85d368bfb199d798908d2f59d2b89ba9d1a3fb03971b3ac5a1f82900", func := "masthead/mastheadlaw14.TxnPays", spec := "txnPays", inPlace := ["math/bits.Add64"], apart := false, narrowed := true }
def TxnPaysUptoSaid : Prop := txnPaysUptoRow.holds Try.pinned (OpenSpec.upto txnPaysSpec)

/-- 'mastheadlaw14.TxnParses', WHERE WHAT IT READS IS OF BULK AT MOST 1048576: true; the input reads as it did. -/
def txnParsesUptoRow : OpenClaim := { program := "ytpjkhecefppamaa", sum := "e4bb7eff85d368bfb199d798908d2f59d2b89ba9d1a3fb03971b3ac5a1f82900", func := "masthead/mastheadlaw14.TxnParses", spec := "txnParses", apart := false, narrowed := true }
def TxnParsesUptoSaid : Prop := txnParsesUptoRow.holds Try.pinned (OpenSpec.upto txnParsesSpec)

/-- 'mastheadlaw14.TxnNever', WHERE WHAT IT READS IS OF BULK AT MOST 1048576: true; the input reads as it did. -/
def txnNeverUptoRow : OpenClaim := { program := "ytpjkhecefppamaa", sum := "e4bb7eff85d368bfb199d798908d2f59d2b89ba9d1a3fb03971b3ac5a1f82900", func := "masthead/mastheadlaw14.TxnNever", spec := "txnNever", apart := false, narrowed := true }
def TxnNeverUptoSaid : Prop := txnNeverUptoRow.holds Try.pinned (OpenSpec.upto txnNeverSpec)

end Rows
end Go.Proofs.Ytpjkhecefppamaa
