/-
  DERIVED. GIVEN WITH THE SEED: THE CARDS: each row of YtlmcdkjobdcflaaDoorRows.lean that lists a variable, with what it lists TIED to the program's text (the seventh form; the later family's looks); each row that meets fmt, with fmt's text TOLD by the authors' own Lean function (tested against real Go, not proved from fmt's source: count such statements apart). THE CARD IS WHAT COUNTS. Prove the row's statement (the work); the ties are given (YtlmcdkjobdcflaaDoorTie.lean); close each card by the builder's one call (the guide's Derived/Test/ToyasCard.lean, 'card_holds'). Laid BY PROGRAM, IN A SANDBOX (cutbox-door.mjs). By AI agents, Wed Nov 11 2026. No macro, syntax, notation, axiom, sorry.
-/
import Derived.Test.YtlmcdkjobdcflaaDoorRows
import GoSem.ClaimSeven
namespace Go.Proofs.YtlmcdkjobdcflaaDoor
namespace Rows

/-- THE TIED CARD OF 'mastheadlaw08.MerkleRoots'. -/
def merkleRootsCard : Claim7 := { stood := { row := merkleRootsRow, standIns := [], harness := (true, "edaf2d63ed6b46e14bcee5fe5ace8e9af498e7c1868947ab19ffb1a082685625"), looks := false }, kinds := [], alts := [], laidByText := true, laidKinds := [.data], laidTests := true, laidLooks := .later }
def MerkleRootsCardSaid : Prop := Claim7.holds Tryd.pinned (.plain (OpenSpec.ofChange merkleRootsSpec)) merkleRootsCard

/-- THE TIED CARD OF 'mastheadlaw08.MerkleAbove'. -/
def merkleAboveCard : Claim7 := { stood := { row := merkleAboveRow, standIns := [], harness := (true, "edaf2d63ed6b46e14bcee5fe5ace8e9af498e7c1868947ab19ffb1a082685625"), looks := false }, kinds := [], alts := [], laidByText := true, laidKinds := [.data], laidTests := true, laidLooks := .later }
def MerkleAboveCardSaid : Prop := Claim7.holds Tryd.pinned (.plain (OpenSpec.ofChange merkleAboveSpec)) merkleAboveCard

/-- THE TIED CARD OF 'mastheadlaw08.MerkleDoubled'. -/
def merkleDoubledCard : Claim7 := { stood := { row := merkleDoubledRow, standIns := [], harness := (true, "edaf2d63ed6b46e14bcee5fe5ace8e9af498e7c1868947ab19ffb1a082685625"), looks := false }, kinds := [], alts := [], laidByText := true, laidKinds := [.data], laidTests := true, laidLooks := .later }
def MerkleDoubledCardSaid : Prop := Claim7.holds Tryd.pinned (.plain (OpenSpec.ofChange merkleDoubledSpec)) merkleDoubledCard

/-- THE TIED CARD OF 'mastheadlaw08.MerkleTwice'. -/
def merkleTwiceCard : Claim7 := { stood := { row := merkleTwiceRow, standIns := [], harness := (true, "edaf2d63ed6b46e14bcee5fe5ace8e9af498e7c1868947ab19ffb1a082685625"), looks := false }, kinds := [], alts := [], laidByText := true, laidKinds := [.data], laidTests := true, laidLooks := .later }
def MerkleTwiceCardSaid : Prop := Claim7.holds Tryd.pinned (.plain (OpenSpec.ofChange merkleTwiceSpec)) merkleTwiceCard

/-- THE TIED CARD OF 'mastheadlaw08.MerkleDepths'. -/
def merkleDepthsCard : Claim7 := { stood := { row := merkleDepthsRow, standIns := [], harness := (true, "edaf2d63ed6b46e14bcee5fe5ace8e9af498e7c1868947ab19ffb1a082685625"), looks := false }, kinds := [], alts := [], laidByText := true, laidKinds := [.data], laidTests := true, laidLooks := .later }
def MerkleDepthsCardSaid : Prop := Claim7.holds Tryd.pinned (.plain (OpenSpec.ofChange merkleDepthsSpec)) merkleDepthsCard

/-- THE TIED CARD OF 'mastheadlaw08.MerkleApart'. -/
def merkleApartCard : Claim7 := { stood := { row := merkleApartRow, standIns := [], harness := (true, "edaf2d63ed6b46e14bcee5fe5ace8e9af498e7c1868947ab19ffb1a082685625"), looks := false }, kinds := [], alts := [], laidByText := true, laidKinds := [.data], laidTests := true, laidLooks := .later }
def MerkleApartCardSaid : Prop := Claim7.holds Tryd.pinned (.plain (OpenSpec.ofChange merkleApartSpec)) merkleApartCard

/-- THE TIED CARD OF 'mastheadlaw09.BranchMakes'. -/
def branchMakesCard : Claim7 := { stood := { row := branchMakesRow, standIns := [], harness := (true, "edaf2d63ed6b46e14bcee5fe5ace8e9af498e7c1868947ab19ffb1a082685625"), looks := false }, kinds := [], alts := [], laidByText := true, laidKinds := [.data], laidTests := true, laidLooks := .later }
def BranchMakesCardSaid : Prop := Claim7.holds Tryd.pinned (.plain (OpenSpec.ofChange branchMakesSpec)) branchMakesCard

/-- THE TIED CARD OF 'mastheadlaw09.BranchUps'. -/
def branchUpsCard : Claim7 := { stood := { row := branchUpsRow, standIns := [], harness := (true, "edaf2d63ed6b46e14bcee5fe5ace8e9af498e7c1868947ab19ffb1a082685625"), looks := false }, kinds := [], alts := [], laidByText := true, laidKinds := [.data], laidTests := true, laidLooks := .later }
def BranchUpsCardSaid : Prop := Claim7.holds Tryd.pinned (.plain (OpenSpec.ofChange branchUpsSpec)) branchUpsCard

/-- THE TIED CARD OF 'mastheadlaw09.BranchBent'. -/
def branchBentCard : Claim7 := { stood := { row := branchBentRow, standIns := [], harness := (true, "edaf2d63ed6b46e14bcee5fe5ace8e9af498e7c1868947ab19ffb1a082685625"), looks := false }, kinds := [], alts := [], laidByText := true, laidKinds := [.data], laidTests := true, laidLooks := .later }
def BranchBentCardSaid : Prop := Claim7.holds Tryd.pinned (.plain (OpenSpec.ofChange branchBentSpec)) branchBentCard

/-- THE TIED CARD OF 'mastheadlaw09.BranchLevels'. -/
def branchLevelsCard : Claim7 := { stood := { row := branchLevelsRow, standIns := [], harness := (true, "edaf2d63ed6b46e14bcee5fe5ace8e9af498e7c1868947ab19ffb1a082685625"), looks := false }, kinds := [], alts := [], laidByText := true, laidKinds := [.data], laidTests := true, laidLooks := .later }
def BranchLevelsCardSaid : Prop := Claim7.holds Tryd.pinned (.plain (OpenSpec.ofChange branchLevelsSpec)) branchLevelsCard

/-- THE TIED CARD OF 'mastheadlaw09.BranchTwice'. -/
def branchTwiceCard : Claim7 := { stood := { row := branchTwiceRow, standIns := [], harness := (true, "edaf2d63ed6b46e14bcee5fe5ace8e9af498e7c1868947ab19ffb1a082685625"), looks := false }, kinds := [], alts := [], laidByText := true, laidKinds := [.data], laidTests := true, laidLooks := .later }
def BranchTwiceCardSaid : Prop := Claim7.holds Tryd.pinned (.plain (OpenSpec.ofChange branchTwiceSpec)) branchTwiceCard

/-- THE TIED CARD OF 'mastheadlaw10.ClashTexts'. -/
def clashTextsCard : Claim7 := { stood := { row := clashTextsRow, standIns := [], harness := (true, "edaf2d63ed6b46e14bcee5fe5ace8e9af498e7c1868947ab19ffb1a082685625"), looks := false }, kinds := [], alts := [], laidByText := true, laidKinds := [.data], laidTests := true, laidLooks := .later }
def ClashTextsCardSaid : Prop := Claim7.holds Tryd.pinned (.plain (OpenSpec.ofChange clashTextsSpec)) clashTextsCard

/-- THE TIED CARD OF 'mastheadlaw10.ClashFinds'. -/
def clashFindsCard : Claim7 := { stood := { row := clashFindsRow, standIns := [], harness := (true, "edaf2d63ed6b46e14bcee5fe5ace8e9af498e7c1868947ab19ffb1a082685625"), looks := false }, kinds := [], alts := [], laidByText := true, laidKinds := [.data], laidTests := true, laidLooks := .later }
def ClashFindsCardSaid : Prop := Claim7.holds Tryd.pinned (.plain (OpenSpec.ofChange clashFindsSpec)) clashFindsCard

/-- THE TIED CARD OF 'mastheadlaw10.ClashIs'. -/
def clashIsCard : Claim7 := { stood := { row := clashIsRow, standIns := [], harness := (true, "edaf2d63ed6b46e14bcee5fe5ace8e9af498e7c1868947ab19ffb1a082685625"), looks := false }, kinds := [], alts := [], laidByText := true, laidKinds := [.data], laidTests := true, laidLooks := .later }
def ClashIsCardSaid : Prop := Claim7.holds Tryd.pinned (.plain (OpenSpec.ofChange clashIsSpec)) clashIsCard

/-- THE TIED CARD OF 'mastheadlaw10.ClashOr'. -/
def clashOrCard : Claim7 := { stood := { row := clashOrRow, standIns := [], harness := (true, "edaf2d63ed6b46e14bcee5fe5ace8e9af498e7c1868947ab19ffb1a082685625"), looks := false }, kinds := [], alts := [], laidByText := true, laidKinds := [.data], laidTests := true, laidLooks := .later }
def ClashOrCardSaid : Prop := Claim7.holds Tryd.pinned (.plain (OpenSpec.ofChange clashOrSpec)) clashOrCard

/-- THE TIED CARD OF 'mastheadlaw10.ClashInner'. -/
def clashInnerCard : Claim7 := { stood := { row := clashInnerRow, standIns := [], harness := (true, "edaf2d63ed6b46e14bcee5fe5ace8e9af498e7c1868947ab19ffb1a082685625"), looks := false }, kinds := [], alts := [], laidByText := true, laidKinds := [.data], laidTests := true, laidLooks := .later }
def ClashInnerCardSaid : Prop := Claim7.holds Tryd.pinned (.plain (OpenSpec.ofChange clashInnerSpec)) clashInnerCard

/-- THE SECOND FORM's CARD OF 'mastheadlaw08.MerkleRoots'. -/
def merkleRootsUptoCard : Claim7 := { stood := { row := merkleRootsUptoRow, standIns := [], harness := (true, "edaf2d63ed6b46e14bcee5fe5ace8e9af498e7c1868947ab19ffb1a082685625"), looks := false }, kinds := [], alts := [], laidByText := true, laidKinds := [.data], laidTests := true, laidLooks := .later }
def MerkleRootsUptoCardSaid : Prop := Claim7.holds Tryd.pinned (.plain (OpenSpec.upto merkleRootsSpec)) merkleRootsUptoCard

/-- THE SECOND FORM's CARD OF 'mastheadlaw08.MerkleAbove'. -/
def merkleAboveUptoCard : Claim7 := { stood := { row := merkleAboveUptoRow, standIns := [], harness := (true, "edaf2d63ed6b46e14bcee5fe5ace8e9af498e7c1868947ab19ffb1a082685625"), looks := false }, kinds := [], alts := [], laidByText := true, laidKinds := [.data], laidTests := true, laidLooks := .later }
def MerkleAboveUptoCardSaid : Prop := Claim7.holds Tryd.pinned (.plain (OpenSpec.upto merkleAboveSpec)) merkleAboveUptoCard

/-- THE SECOND FORM's CARD OF 'mastheadlaw08.MerkleDoubled'. -/
def merkleDoubledUptoCard : Claim7 := { stood := { row := merkleDoubledUptoRow, standIns := [], harness := (true, "edaf2d63ed6b46e14bcee5fe5ace8e9af498e7c1868947ab19ffb1a082685625"), looks := false }, kinds := [], alts := [], laidByText := true, laidKinds := [.data], laidTests := true, laidLooks := .later }
def MerkleDoubledUptoCardSaid : Prop := Claim7.holds Tryd.pinned (.plain (OpenSpec.upto merkleDoubledSpec)) merkleDoubledUptoCard

/-- THE SECOND FORM's CARD OF 'mastheadlaw08.MerkleTwice'. -/
def merkleTwiceUptoCard : Claim7 := { stood := { row := merkleTwiceUptoRow, standIns := [], harness := (true, "edaf2d63ed6b46e14bcee5fe5ace8e9af498e7c1868947ab19ffb1a082685625"), looks := false }, kinds := [], alts := [], laidByText := true, laidKinds := [.data], laidTests := true, laidLooks := .later }
def MerkleTwiceUptoCardSaid : Prop := Claim7.holds Tryd.pinned (.plain (OpenSpec.upto merkleTwiceSpec)) merkleTwiceUptoCard

/-- THE SECOND FORM's CARD OF 'mastheadlaw08.MerkleDepths'. -/
def merkleDepthsUptoCard : Claim7 := { stood := { row := merkleDepthsUptoRow, standIns := [], harness := (true, "edaf2d63ed6b46e14bcee5fe5ace8e9af498e7c1868947ab19ffb1a082685625"), looks := false }, kinds := [], alts := [], laidByText := true, laidKinds := [.data], laidTests := true, laidLooks := .later }
def MerkleDepthsUptoCardSaid : Prop := Claim7.holds Tryd.pinned (.plain (OpenSpec.upto merkleDepthsSpec)) merkleDepthsUptoCard

/-- THE SECOND FORM's CARD OF 'mastheadlaw08.MerkleApart'. -/
def merkleApartUptoCard : Claim7 := { stood := { row := merkleApartUptoRow, standIns := [], harness := (true, "edaf2d63ed6b46e14bcee5fe5ace8e9af498e7c1868947ab19ffb1a082685625"), looks := false }, kinds := [], alts := [], laidByText := true, laidKinds := [.data], laidTests := true, laidLooks := .later }
def MerkleApartUptoCardSaid : Prop := Claim7.holds Tryd.pinned (.plain (OpenSpec.upto merkleApartSpec)) merkleApartUptoCard

/-- THE SECOND FORM's CARD OF 'mastheadlaw09.BranchMakes'. -/
def branchMakesUptoCard : Claim7 := { stood := { row := branchMakesUptoRow, standIns := [], harness := (true, "edaf2d63ed6b46e14bcee5fe5ace8e9af498e7c1868947ab19ffb1a082685625"), looks := false }, kinds := [], alts := [], laidByText := true, laidKinds := [.data], laidTests := true, laidLooks := .later }
def BranchMakesUptoCardSaid : Prop := Claim7.holds Tryd.pinned (.plain (OpenSpec.upto branchMakesSpec)) branchMakesUptoCard

/-- THE SECOND FORM's CARD OF 'mastheadlaw09.BranchUps'. -/
def branchUpsUptoCard : Claim7 := { stood := { row := branchUpsUptoRow, standIns := [], harness := (true, "edaf2d63ed6b46e14bcee5fe5ace8e9af498e7c1868947ab19ffb1a082685625"), looks := false }, kinds := [], alts := [], laidByText := true, laidKinds := [.data], laidTests := true, laidLooks := .later }
def BranchUpsUptoCardSaid : Prop := Claim7.holds Tryd.pinned (.plain (OpenSpec.upto branchUpsSpec)) branchUpsUptoCard

/-- THE SECOND FORM's CARD OF 'mastheadlaw09.BranchBent'. -/
def branchBentUptoCard : Claim7 := { stood := { row := branchBentUptoRow, standIns := [], harness := (true, "edaf2d63ed6b46e14bcee5fe5ace8e9af498e7c1868947ab19ffb1a082685625"), looks := false }, kinds := [], alts := [], laidByText := true, laidKinds := [.data], laidTests := true, laidLooks := .later }
def BranchBentUptoCardSaid : Prop := Claim7.holds Tryd.pinned (.plain (OpenSpec.upto branchBentSpec)) branchBentUptoCard

/-- THE SECOND FORM's CARD OF 'mastheadlaw09.BranchLevels'. -/
def branchLevelsUptoCard : Claim7 := { stood := { row := branchLevelsUptoRow, standIns := [], harness := (true, "edaf2d63ed6b46e14bcee5fe5ace8e9af498e7c1868947ab19ffb1a082685625"), looks := false }, kinds := [], alts := [], laidByText := true, laidKinds := [.data], laidTests := true, laidLooks := .later }
def BranchLevelsUptoCardSaid : Prop := Claim7.holds Tryd.pinned (.plain (OpenSpec.upto branchLevelsSpec)) branchLevelsUptoCard

/-- THE SECOND FORM's CARD OF 'mastheadlaw09.BranchTwice'. -/
def branchTwiceUptoCard : Claim7 := { stood := { row := branchTwiceUptoRow, standIns := [], harness := (true, "edaf2d63ed6b46e14bcee5fe5ace8e9af498e7c1868947ab19ffb1a082685625"), looks := false }, kinds := [], alts := [], laidByText := true, laidKinds := [.data], laidTests := true, laidLooks := .later }
def BranchTwiceUptoCardSaid : Prop := Claim7.holds Tryd.pinned (.plain (OpenSpec.upto branchTwiceSpec)) branchTwiceUptoCard

/-- THE SECOND FORM's CARD OF 'mastheadlaw10.ClashTexts'. -/
def clashTextsUptoCard : Claim7 := { stood := { row := clashTextsUptoRow, standIns := [], harness := (true, "edaf2d63ed6b46e14bcee5fe5ace8e9af498e7c1868947ab19ffb1a082685625"), looks := false }, kinds := [], alts := [], laidByText := true, laidKinds := [.data], laidTests := true, laidLooks := .later }
def ClashTextsUptoCardSaid : Prop := Claim7.holds Tryd.pinned (.plain (OpenSpec.upto clashTextsSpec)) clashTextsUptoCard

/-- THE SECOND FORM's CARD OF 'mastheadlaw10.ClashFinds'. -/
def clashFindsUptoCard : Claim7 := { stood := { row := clashFindsUptoRow, standIns := [], harness := (true, "edaf2d63ed6b46e14bcee5fe5ace8e9af498e7c1868947ab19ffb1a082685625"), looks := false }, kinds := [], alts := [], laidByText := true, laidKinds := [.data], laidTests := true, laidLooks := .later }
def ClashFindsUptoCardSaid : Prop := Claim7.holds Tryd.pinned (.plain (OpenSpec.upto clashFindsSpec)) clashFindsUptoCard

/-- THE SECOND FORM's CARD OF 'mastheadlaw10.ClashIs'. -/
def clashIsUptoCard : Claim7 := { stood := { row := clashIsUptoRow, standIns := [], harness := (true, "edaf2d63ed6b46e14bcee5fe5ace8e9af498e7c1868947ab19ffb1a082685625"), looks := false }, kinds := [], alts := [], laidByText := true, laidKinds := [.data], laidTests := true, laidLooks := .later }
def ClashIsUptoCardSaid : Prop := Claim7.holds Tryd.pinned (.plain (OpenSpec.upto clashIsSpec)) clashIsUptoCard

/-- THE SECOND FORM's CARD OF 'mastheadlaw10.ClashOr'. -/
def clashOrUptoCard : Claim7 := { stood := { row := clashOrUptoRow, standIns := [], harness := (true, "edaf2d63ed6b46e14bcee5fe5ace8e9af498e7c1868947ab19ffb1a082685625"), looks := false }, kinds := [], alts := [], laidByText := true, laidKinds := [.data], laidTests := true, laidLooks := .later }
def ClashOrUptoCardSaid : Prop := Claim7.holds Tryd.pinned (.plain (OpenSpec.upto clashOrSpec)) clashOrUptoCard

/-- THE SECOND FORM's CARD OF 'mastheadlaw10.ClashInner'. -/
def clashInnerUptoCard : Claim7 := { stood := { row := clashInnerUptoRow, standIns := [], harness := (true, "edaf2d63ed6b46e14bcee5fe5ace8e9af498e7c1868947ab19ffb1a082685625"), looks := false }, kinds := [], alts := [], laidByText := true, laidKinds := [.data], laidTests := true, laidLooks := .later }
def ClashInnerUptoCardSaid : Prop := Claim7.holds Tryd.pinned (.plain (OpenSpec.upto clashInnerSpec)) clashInnerUptoCard
end Rows
end Go.Proofs.YtlmcdkjobdcflaaDoor
