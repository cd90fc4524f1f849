/-
  DERIVED. GIVEN WITH THE SEED: THE CARDS: each row of YtpjkhecefppamaaDoorRows.lean that lists a variable, with what it lists TIED to the program's text (the seventh form; the later family's looks); each row that meets fmt, with fmt's text TOLD by the authors' own Lean function (tested against real Go, not proved from fmt's source: count such statements apart). THE CARD IS WHAT COUNTS. Prove the row's statement (the work); the ties are given (YtpjkhecefppamaaDoorTie.lean); close each card by the builder's one call (the guide's Derived/Test/ToyasCard.lean, 'card_holds'). Laid BY PROGRAM, IN A SANDBOX (cutbox-door.mjs). By AI agents, Wed Nov 11 2026. No macro, syntax, notation, axiom, sorry.
-/
import Derived.Test.YtpjkhecefppamaaDoorRows
import GoSem.ClaimSeven
namespace Go.Proofs.YtpjkhecefppamaaDoor
namespace Rows

/-- THE TIED CARD OF 'mastheadlaw14.TxnBytes'. -/
def txnBytesCard : Claim7 := { stood := { row := txnBytesRow, standIns := [], harness := (true, "27184b09e7b6ca50e3ce7dd6197ec3d5bb8bb476072ee50c5c95f37c398a8840"), looks := false }, kinds := [], alts := [], laidByText := true, laidKinds := [.data], laidTests := true, laidLooks := .later }
def TxnBytesCardSaid : Prop := Claim7.holds Tryd.pinned (.plain (OpenSpec.ofChange txnBytesSpec)) txnBytesCard

/-- THE SECOND FORM's CARD OF 'mastheadlaw14.TxnBytes'. -/
def txnBytesUptoCard : Claim7 := { stood := { row := txnBytesUptoRow, standIns := [], harness := (true, "27184b09e7b6ca50e3ce7dd6197ec3d5bb8bb476072ee50c5c95f37c398a8840"), looks := false }, kinds := [], alts := [], laidByText := true, laidKinds := [.data], laidTests := true, laidLooks := .later }
def TxnBytesUptoCardSaid : Prop := Claim7.holds Tryd.pinned (.plain (OpenSpec.upto txnBytesSpec)) txnBytesUptoCard
end Rows
end Go.Proofs.YtpjkhecefppamaaDoor
