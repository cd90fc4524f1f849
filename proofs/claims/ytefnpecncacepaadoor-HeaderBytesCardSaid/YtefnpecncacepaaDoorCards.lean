/-
  DERIVED. GIVEN WITH THE SEED: THE CARDS: each row of YtefnpecncacepaaDoorRows.lean that lists a variable, with what it lists TIED to the program's text (the seventh form; the later family's looks); each row that meets fmt, with fmt's text TOLD by the authors' own Lean function (tested against real Go, not proved from fmt's source: count such statements apart). THE CARD IS WHAT COUNTS. Prove the row's statement (the work); the ties are given (YtefnpecncacepaaDoorTie.lean); close each card by the builder's one call (the guide's Derived/Test/ToyasCard.lean, 'card_holds'). Laid BY PROGRAM, IN A SANDBOX (cutbox-door.mjs). By AI agents, Wed Nov 11 2026. No macro, syntax, notation, axiom, sorry.
-/
import Derived.Test.YtefnpecncacepaaDoorRows
import GoSem.ClaimSeven
namespace Go.Proofs.YtefnpecncacepaaDoor
namespace Rows

/-- THE TIED CARD OF 'mastheadlaw07.HeaderApart'. -/
def headerApartCard : Claim7 := { stood := { row := headerApartRow, standIns := [], harness := (true, "df130dcbc00706934691ce8be34d45aca767558c1326bfd6cd85103f534c7e2e"), looks := false }, kinds := [], alts := [], laidByText := true, laidKinds := [.data], laidTests := true, laidLooks := .later }
def HeaderApartCardSaid : Prop := Claim7.holds Tryd.pinned (.plain (OpenSpec.ofChange headerApartSpec)) headerApartCard

/-- THE TIED CARD OF 'mastheadlaw07.HeaderBytes'. -/
def headerBytesCard : Claim7 := { stood := { row := headerBytesRow, standIns := [], harness := (true, "df130dcbc00706934691ce8be34d45aca767558c1326bfd6cd85103f534c7e2e"), looks := false }, kinds := [], alts := [], laidByText := true, laidKinds := [.data], laidTests := true, laidLooks := .later }
def HeaderBytesCardSaid : Prop := Claim7.holds Tryd.pinned (.plain (OpenSpec.ofChange headerBytesSpec)) headerBytesCard

/-- THE TIED CARD OF 'mastheadlaw07.HeaderMeets'. -/
def headerMeetsCard : Claim7 := { stood := { row := headerMeetsRow, standIns := [], harness := (true, "df130dcbc00706934691ce8be34d45aca767558c1326bfd6cd85103f534c7e2e"), looks := false }, kinds := [], alts := [], laidByText := true, laidKinds := [.data], laidTests := true, laidLooks := .later }
def HeaderMeetsCardSaid : Prop := Claim7.holds Tryd.pinned (.plain (OpenSpec.ofChange headerMeetsSpec)) headerMeetsCard

/-- THE TIED CARD OF 'mastheadlaw07.HeaderSeeks'. -/
def headerSeeksCard : Claim7 := { stood := { row := headerSeeksRow, standIns := [], harness := (true, "df130dcbc00706934691ce8be34d45aca767558c1326bfd6cd85103f534c7e2e"), looks := false }, kinds := [], alts := [], laidByText := true, laidKinds := [.data], laidTests := true, laidLooks := .later }
def HeaderSeeksCardSaid : Prop := Claim7.holds Tryd.pinned (.plain (OpenSpec.ofChange headerSeeksSpec)) headerSeeksCard

/-- THE SECOND FORM's CARD OF 'mastheadlaw07.HeaderApart'. -/
def headerApartUptoCard : Claim7 := { stood := { row := headerApartUptoRow, standIns := [], harness := (true, "df130dcbc00706934691ce8be34d45aca767558c1326bfd6cd85103f534c7e2e"), looks := false }, kinds := [], alts := [], laidByText := true, laidKinds := [.data], laidTests := true, laidLooks := .later }
def HeaderApartUptoCardSaid : Prop := Claim7.holds Tryd.pinned (.plain (OpenSpec.upto headerApartSpec)) headerApartUptoCard

/-- THE SECOND FORM's CARD OF 'mastheadlaw07.HeaderBytes'. -/
def headerBytesUptoCard : Claim7 := { stood := { row := headerBytesUptoRow, standIns := [], harness := (true, "df130dcbc00706934691ce8be34d45aca767558c1326bfd6cd85103f534c7e2e"), looks := false }, kinds := [], alts := [], laidByText := true, laidKinds := [.data], laidTests := true, laidLooks := .later }
def HeaderBytesUptoCardSaid : Prop := Claim7.holds Tryd.pinned (.plain (OpenSpec.upto headerBytesSpec)) headerBytesUptoCard

/-- THE SECOND FORM's CARD OF 'mastheadlaw07.HeaderMeets'. -/
def headerMeetsUptoCard : Claim7 := { stood := { row := headerMeetsUptoRow, standIns := [], harness := (true, "df130dcbc00706934691ce8be34d45aca767558c1326bfd6cd85103f534c7e2e"), looks := false }, kinds := [], alts := [], laidByText := true, laidKinds := [.data], laidTests := true, laidLooks := .later }
def HeaderMeetsUptoCardSaid : Prop := Claim7.holds Tryd.pinned (.plain (OpenSpec.upto headerMeetsSpec)) headerMeetsUptoCard

/-- THE SECOND FORM's CARD OF 'mastheadlaw07.HeaderSeeks'. -/
def headerSeeksUptoCard : Claim7 := { stood := { row := headerSeeksUptoRow, standIns := [], harness := (true, "df130dcbc00706934691ce8be34d45aca767558c1326bfd6cd85103f534c7e2e"), looks := false }, kinds := [], alts := [], laidByText := true, laidKinds := [.data], laidTests := true, laidLooks := .later }
def HeaderSeeksUptoCardSaid : Prop := Claim7.holds Tryd.pinned (.plain (OpenSpec.upto headerSeeksSpec)) headerSeeksUptoCard
end Rows
end Go.Proofs.YtefnpecncacepaaDoor
