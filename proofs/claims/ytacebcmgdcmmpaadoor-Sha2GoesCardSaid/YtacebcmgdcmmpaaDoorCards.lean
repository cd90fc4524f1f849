/-
  DERIVED. GIVEN WITH THE SEED: THE CARDS: each row of YtacebcmgdcmmpaaDoorRows.lean that lists a variable, with what it lists TIED to the program's text (the seventh form; the later family's looks); each row that meets fmt, with fmt's text TOLD by the authors' own Lean function (tested against real Go, not proved from fmt's source: count such statements apart). THE CARD IS WHAT COUNTS. Prove the row's statement (the work); the ties are given (YtacebcmgdcmmpaaDoorTie.lean); close each card by the builder's one call (the guide's Derived/Test/ToyasCard.lean, 'card_holds'). Laid BY PROGRAM, IN A SANDBOX (cutbox-door.mjs). By AI agents, Wed Nov 11 2026. No macro, syntax, notation, axiom, sorry.
-/
import Derived.Test.YtacebcmgdcmmpaaDoorRows
import GoSem.ClaimSeven
namespace Go.Proofs.YtacebcmgdcmmpaaDoor
namespace Rows

/-- THE TIED CARD OF 'mastheadlaw02.Sha2Blocks'. -/
def sha2BlocksCard : Claim7 := { stood := { row := sha2BlocksRow, standIns := [], harness := (true, "02ff824ff8342518baba65d2208a8dd9c4c55b81ef62e9d697af63ae113d12ce"), looks := false }, kinds := [], alts := [], laidByText := true, laidKinds := [.data], laidTests := true, laidLooks := .later }
def Sha2BlocksCardSaid : Prop := Claim7.holds Tryd.pinned (.plain (OpenSpec.ofChange sha2BlocksSpec)) sha2BlocksCard

/-- THE TIED CARD OF 'mastheadlaw02.Sha2Ends'. -/
def sha2EndsCard : Claim7 := { stood := { row := sha2EndsRow, standIns := [], harness := (true, "02ff824ff8342518baba65d2208a8dd9c4c55b81ef62e9d697af63ae113d12ce"), looks := false }, kinds := [], alts := [], laidByText := true, laidKinds := [.data], laidTests := true, laidLooks := .later }
def Sha2EndsCardSaid : Prop := Claim7.holds Tryd.pinned (.plain (OpenSpec.ofChange sha2EndsSpec)) sha2EndsCard

/-- THE TIED CARD OF 'mastheadlaw02.Sha2Own'. -/
def sha2OwnCard : Claim7 := { stood := { row := sha2OwnRow, standIns := [], harness := (true, "02ff824ff8342518baba65d2208a8dd9c4c55b81ef62e9d697af63ae113d12ce"), looks := false }, kinds := [], alts := [], laidByText := true, laidKinds := [.data], laidTests := true, laidLooks := .later }
def Sha2OwnCardSaid : Prop := Claim7.holds Tryd.pinned (.plain (OpenSpec.ofChange sha2OwnSpec)) sha2OwnCard

/-- THE TIED CARD OF 'mastheadlaw02.Sha2Goes'. -/
def sha2GoesCard : Claim7 := { stood := { row := sha2GoesRow, standIns := [], harness := (true, "02ff824ff8342518baba65d2208a8dd9c4c55b81ef62e9d697af63ae113d12ce"), looks := false }, kinds := [], alts := [], laidByText := true, laidKinds := [.data], laidTests := true, laidLooks := .later }
def Sha2GoesCardSaid : Prop := Claim7.holds Tryd.pinned (.plain (OpenSpec.ofChange sha2GoesSpec)) sha2GoesCard

/-- THE TIED CARD OF 'mastheadlaw02.Sha2Sums'. -/
def sha2SumsCard : Claim7 := { stood := { row := sha2SumsRow, standIns := [], harness := (true, "02ff824ff8342518baba65d2208a8dd9c4c55b81ef62e9d697af63ae113d12ce"), looks := false }, kinds := [], alts := [], laidByText := true, laidKinds := [.data], laidTests := true, laidLooks := .later }
def Sha2SumsCardSaid : Prop := Claim7.holds Tryd.pinned (.plain (OpenSpec.ofChange sha2SumsSpec)) sha2SumsCard

/-- THE TIED CARD OF 'mastheadlaw02.Sha2Parts'. -/
def sha2PartsCard : Claim7 := { stood := { row := sha2PartsRow, standIns := [], harness := (true, "02ff824ff8342518baba65d2208a8dd9c4c55b81ef62e9d697af63ae113d12ce"), looks := false }, kinds := [], alts := [], laidByText := true, laidKinds := [.data], laidTests := true, laidLooks := .later }
def Sha2PartsCardSaid : Prop := Claim7.holds Tryd.pinned (.plain (OpenSpec.ofChange sha2PartsSpec)) sha2PartsCard

/-- THE SECOND FORM's CARD OF 'mastheadlaw02.Sha2Blocks'. -/
def sha2BlocksUptoCard : Claim7 := { stood := { row := sha2BlocksUptoRow, standIns := [], harness := (true, "02ff824ff8342518baba65d2208a8dd9c4c55b81ef62e9d697af63ae113d12ce"), looks := false }, kinds := [], alts := [], laidByText := true, laidKinds := [.data], laidTests := true, laidLooks := .later }
def Sha2BlocksUptoCardSaid : Prop := Claim7.holds Tryd.pinned (.plain (OpenSpec.upto sha2BlocksSpec)) sha2BlocksUptoCard

/-- THE SECOND FORM's CARD OF 'mastheadlaw02.Sha2Ends'. -/
def sha2EndsUptoCard : Claim7 := { stood := { row := sha2EndsUptoRow, standIns := [], harness := (true, "02ff824ff8342518baba65d2208a8dd9c4c55b81ef62e9d697af63ae113d12ce"), looks := false }, kinds := [], alts := [], laidByText := true, laidKinds := [.data], laidTests := true, laidLooks := .later }
def Sha2EndsUptoCardSaid : Prop := Claim7.holds Tryd.pinned (.plain (OpenSpec.upto sha2EndsSpec)) sha2EndsUptoCard

/-- THE SECOND FORM's CARD OF 'mastheadlaw02.Sha2Own'. -/
def sha2OwnUptoCard : Claim7 := { stood := { row := sha2OwnUptoRow, standIns := [], harness := (true, "02ff824ff8342518baba65d2208a8dd9c4c55b81ef62e9d697af63ae113d12ce"), looks := false }, kinds := [], alts := [], laidByText := true, laidKinds := [.data], laidTests := true, laidLooks := .later }
def Sha2OwnUptoCardSaid : Prop := Claim7.holds Tryd.pinned (.plain (OpenSpec.upto sha2OwnSpec)) sha2OwnUptoCard

/-- THE SECOND FORM's CARD OF 'mastheadlaw02.Sha2Goes'. -/
def sha2GoesUptoCard : Claim7 := { stood := { row := sha2GoesUptoRow, standIns := [], harness := (true, "02ff824ff8342518baba65d2208a8dd9c4c55b81ef62e9d697af63ae113d12ce"), looks := false }, kinds := [], alts := [], laidByText := true, laidKinds := [.data], laidTests := true, laidLooks := .later }
def Sha2GoesUptoCardSaid : Prop := Claim7.holds Tryd.pinned (.plain (OpenSpec.upto sha2GoesSpec)) sha2GoesUptoCard

/-- THE SECOND FORM's CARD OF 'mastheadlaw02.Sha2Sums'. -/
def sha2SumsUptoCard : Claim7 := { stood := { row := sha2SumsUptoRow, standIns := [], harness := (true, "02ff824ff8342518baba65d2208a8dd9c4c55b81ef62e9d697af63ae113d12ce"), looks := false }, kinds := [], alts := [], laidByText := true, laidKinds := [.data], laidTests := true, laidLooks := .later }
def Sha2SumsUptoCardSaid : Prop := Claim7.holds Tryd.pinned (.plain (OpenSpec.upto sha2SumsSpec)) sha2SumsUptoCard

/-- THE SECOND FORM's CARD OF 'mastheadlaw02.Sha2Parts'. -/
def sha2PartsUptoCard : Claim7 := { stood := { row := sha2PartsUptoRow, standIns := [], harness := (true, "02ff824ff8342518baba65d2208a8dd9c4c55b81ef62e9d697af63ae113d12ce"), looks := false }, kinds := [], alts := [], laidByText := true, laidKinds := [.data], laidTests := true, laidLooks := .later }
def Sha2PartsUptoCardSaid : Prop := Claim7.holds Tryd.pinned (.plain (OpenSpec.upto sha2PartsSpec)) sha2PartsUptoCard
end Rows
end Go.Proofs.YtacebcmgdcmmpaaDoor
