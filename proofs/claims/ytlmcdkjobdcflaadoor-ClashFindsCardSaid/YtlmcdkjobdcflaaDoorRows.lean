/-
  NARROWER THAN 'FOR EVERY INPUT', by the rows' own cells (each row's printed sentence says how): MerkleRoots: laid · MerkleAbove: laid · MerkleDoubled: laid · MerkleTwice: laid · MerkleDepths: laid · MerkleApart: laid · BranchMakes: laid · BranchUps: laid · BranchBent: laid · BranchLevels: laid · BranchTwice: laid · ClashTexts: laid · ClashFinds: laid · ClashIs: laid · ClashOr: laid · ClashInner: laid.
  DERIVED. THE GIVEN ROWS OF THIS SEAT. 16 by the template 'for every input the law returns true; each argument reads behind the call as it read before'; 0 by the template 'total and deterministic' (their statements: YtlmcdkjobdcflaaDoorTotals.lean).
  GIVEN WITH THE SEED: the statements are not yours to turn. If you find one false, say at which input.
  Laid BY PROGRAM, IN A SANDBOX (cutbox-rows.mjs): the forced cells as the released guide's own fill.sh prints them over the translation d83fe0080444fd64… (all of the seat's roots in one cut). By AI agents, Wed Nov 11 2026. No macro, syntax, notation, axiom, sorry.
-/
import Derived.Test.YtlmcdkjobdcflaaDoorChecked
import GoSem.Claim
import GoSem.ClaimJoined
import GoSem.ClaimMapViews
import Derived.JoinedTies
import Derived.KernelRfl
namespace Go.Proofs.YtlmcdkjobdcflaaDoor
/- THE CELL 'sum', in the pinned program and in every row, IS THE sha256 OF THE DUMP (.gsa) THAT YtlmcdkjobdcflaaDoorProg.lean LOADS. Nothing in Lean hashes anything: it is a label: what it is worth is what the hold of that sum in a sandbox is worth. -/
noncomputable def Tryd.pinned : Pinned := { name := "ytlmcdkjobdcflaadoor", sum := "d83fe0080444fd646d6c53af97e5f42c9802a78dd72f292f463b1f2cba198a41", checked := Tryd.checked }
namespace Rows
def none {H : Type} : Left H := { results := [], args := [] }

/- WHAT THE LISTED PACKAGE-LEVEL VARIABLES READ AS WHEN THE CALL BEGINS. Each datum BY PROGRAM (the guide's laid-datum.mjs) off the statement by which the dump's own 'gosem.cut.vars' lays the variable. In a bare row this is a premise. The card (YtlmcdkjobdcflaaDoorCards.lean) ties it to the program's text. -/
def laid_masthead_sha2_k {H : Type} : DataW H := .agg [.lit (.int .u32 1116352408), .lit (.int .u32 1899447441), .lit (.int .u32 3049323471), .lit (.int .u32 3921009573), .lit (.int .u32 961987163), .lit (.int .u32 1508970993), .lit (.int .u32 2453635748), .lit (.int .u32 2870763221), .lit (.int .u32 3624381080), .lit (.int .u32 310598401), .lit (.int .u32 607225278), .lit (.int .u32 1426881987), .lit (.int .u32 1925078388), .lit (.int .u32 2162078206), .lit (.int .u32 2614888103), .lit (.int .u32 3248222580), .lit (.int .u32 3835390401), .lit (.int .u32 4022224774), .lit (.int .u32 264347078), .lit (.int .u32 604807628), .lit (.int .u32 770255983), .lit (.int .u32 1249150122), .lit (.int .u32 1555081692), .lit (.int .u32 1996064986), .lit (.int .u32 2554220882), .lit (.int .u32 2821834349), .lit (.int .u32 2952996808), .lit (.int .u32 3210313671), .lit (.int .u32 3336571891), .lit (.int .u32 3584528711), .lit (.int .u32 113926993), .lit (.int .u32 338241895), .lit (.int .u32 666307205), .lit (.int .u32 773529912), .lit (.int .u32 1294757372), .lit (.int .u32 1396182291), .lit (.int .u32 1695183700), .lit (.int .u32 1986661051), .lit (.int .u32 2177026350), .lit (.int .u32 2456956037), .lit (.int .u32 2730485921), .lit (.int .u32 2820302411), .lit (.int .u32 3259730800), .lit (.int .u32 3345764771), .lit (.int .u32 3516065817), .lit (.int .u32 3600352804), .lit (.int .u32 4094571909), .lit (.int .u32 275423344), .lit (.int .u32 430227734), .lit (.int .u32 506948616), .lit (.int .u32 659060556), .lit (.int .u32 883997877), .lit (.int .u32 958139571), .lit (.int .u32 1322822218), .lit (.int .u32 1537002063), .lit (.int .u32 1747873779), .lit (.int .u32 1955562222), .lit (.int .u32 2024104815), .lit (.int .u32 2227730452), .lit (.int .u32 2361852424), .lit (.int .u32 2428436474), .lit (.int .u32 2756734187), .lit (.int .u32 3204031479), .lit (.int .u32 3329325298)]

/-- 'mastheadlaw08.MerkleRoots': WHATEVER THE INPUT: true; the input reads as it did. -/
def merkleRootsSpec : ChangeSpec := { name := "merkleRoots", fn := fun _ => fun
  | [d] => { results := [.lit (.bool true)], args := [d] }
  | _ => none }
def merkleRootsRow : OpenClaim := { program := "ytlmcdkjobdcflaadoor", sum := "d83fe0080444fd646d6c53af97e5f42c9802a78dd72f292f463b1f2cba198a41", func := "masthead/mastheadlaw08.MerkleRoots", spec := "merkleRoots", unfollowed := true, recurses := true, named := ["masthead/sha2.k"], plainKeys := false, apart := false, laid := [("masthead/sha2.k", laid_masthead_sha2_k)] }
def MerkleRootsSaid : Prop := merkleRootsRow.holds Tryd.pinned (OpenSpec.ofChange merkleRootsSpec)

/-- ITS FALSE NEIGHBOUR: 'it returns false'. Refute it at one input. -/
def merkleRootsWrong : ChangeSpec := { name := "merkleRoots", fn := fun _ => fun
  | [d] => { results := [.lit (.bool false)], args := [d] }
  | _ => none }
def MerkleRootsWrongFalsely : Prop := merkleRootsRow.holds Tryd.pinned (OpenSpec.ofChange merkleRootsWrong)

/-- 'mastheadlaw08.MerkleAbove': WHATEVER THE INPUT: true; the input reads as it did. -/
def merkleAboveSpec : ChangeSpec := { name := "merkleAbove", fn := fun _ => fun
  | [d] => { results := [.lit (.bool true)], args := [d] }
  | _ => none }
def merkleAboveRow : OpenClaim := { program := "ytlmcdkjobdcflaadoor", sum := "d83fe0080444fd646d6c53af97e5f42c9802a78dd72f292f463b1f2cba198a41", func := "masthead/mastheadlaw08.MerkleAbove", spec := "merkleAbove", unfollowed := true, recurses := true, named := ["masthead/sha2.k"], plainKeys := false, apart := false, laid := [("masthead/sha2.k", laid_masthead_sha2_k)] }
def MerkleAboveSaid : Prop := merkleAboveRow.holds Tryd.pinned (OpenSpec.ofChange merkleAboveSpec)

/-- ITS FALSE NEIGHBOUR: 'it returns false'. Refute it at one input. -/
def merkleAboveWrong : ChangeSpec := { name := "merkleAbove", fn := fun _ => fun
  | [d] => { results := [.lit (.bool false)], args := [d] }
  | _ => none }
def MerkleAboveWrongFalsely : Prop := merkleAboveRow.holds Tryd.pinned (OpenSpec.ofChange merkleAboveWrong)

/-- 'mastheadlaw08.MerkleDoubled': WHATEVER THE INPUT: true; the input reads as it did. -/
def merkleDoubledSpec : ChangeSpec := { name := "merkleDoubled", fn := fun _ => fun
  | [d] => { results := [.lit (.bool true)], args := [d] }
  | _ => none }
def merkleDoubledRow : OpenClaim := { program := "ytlmcdkjobdcflaadoor", sum := "d83fe0080444fd646d6c53af97e5f42c9802a78dd72f292f463b1f2cba198a41", func := "masthead/mastheadlaw08.MerkleDoubled", spec := "merkleDoubled", unfollowed := true, recurses := true, named := ["masthead/sha2.k"], plainKeys := false, apart := false, laid := [("masthead/sha2.k", laid_masthead_sha2_k)] }
def MerkleDoubledSaid : Prop := merkleDoubledRow.holds Tryd.pinned (OpenSpec.ofChange merkleDoubledSpec)

/-- ITS FALSE NEIGHBOUR: 'it returns false'. Refute it at one input. -/
def merkleDoubledWrong : ChangeSpec := { name := "merkleDoubled", fn := fun _ => fun
  | [d] => { results := [.lit (.bool false)], args := [d] }
  | _ => none }
def MerkleDoubledWrongFalsely : Prop := merkleDoubledRow.holds Tryd.pinned (OpenSpec.ofChange merkleDoubledWrong)

/-- 'mastheadlaw08.MerkleTwice': WHATEVER THE INPUT: true; the input reads as it did. -/
def merkleTwiceSpec : ChangeSpec := { name := "merkleTwice", fn := fun _ => fun
  | [d] => { results := [.lit (.bool true)], args := [d] }
  | _ => none }
def merkleTwiceRow : OpenClaim := { program := "ytlmcdkjobdcflaadoor", sum := "d83fe0080444fd646d6c53af97e5f42c9802a78dd72f292f463b1f2cba198a41", func := "masthead/mastheadlaw08.MerkleTwice", spec := "merkleTwice", unfollowed := true, recurses := true, named := ["masthead/sha2.k"], plainKeys := false, apart := false, laid := [("masthead/sha2.k", laid_masthead_sha2_k)] }
def MerkleTwiceSaid : Prop := merkleTwiceRow.holds Tryd.pinned (OpenSpec.ofChange merkleTwiceSpec)

/-- ITS FALSE NEIGHBOUR: 'it returns false'. Refute it at one input. -/
def merkleTwiceWrong : ChangeSpec := { name := "merkleTwice", fn := fun _ => fun
  | [d] => { results := [.lit (.bool false)], args := [d] }
  | _ => none }
def MerkleTwiceWrongFalsely : Prop := merkleTwiceRow.holds Tryd.pinned (OpenSpec.ofChange merkleTwiceWrong)

/-- 'mastheadlaw08.MerkleDepths': WHATEVER THE INPUT: true; the input reads as it did. -/
def merkleDepthsSpec : ChangeSpec := { name := "merkleDepths", fn := fun _ => fun
  | [d] => { results := [.lit (.bool true)], args := [d] }
  | _ => none }
def merkleDepthsRow : OpenClaim := { program := "ytlmcdkjobdcflaadoor", sum := "d83fe0080444fd646d6c53af97e5f42c9802a78dd72f292f463b1f2cba198a41", func := "masthead/mastheadlaw08.MerkleDepths", spec := "merkleDepths", unfollowed := true, recurses := true, named := ["masthead/sha2.k"], plainKeys := false, apart := false, laid := [("masthead/sha2.k", laid_masthead_sha2_k)] }
def MerkleDepthsSaid : Prop := merkleDepthsRow.holds Tryd.pinned (OpenSpec.ofChange merkleDepthsSpec)

/-- ITS FALSE NEIGHBOUR: 'it returns false'. Refute it at one input. -/
def merkleDepthsWrong : ChangeSpec := { name := "merkleDepths", fn := fun _ => fun
  | [d] => { results := [.lit (.bool false)], args := [d] }
  | _ => none }
def MerkleDepthsWrongFalsely : Prop := merkleDepthsRow.holds Tryd.pinned (OpenSpec.ofChange merkleDepthsWrong)

/-- 'mastheadlaw08.MerkleApart': WHATEVER THE INPUT: true; the input reads as it did. -/
def merkleApartSpec : ChangeSpec := { name := "merkleApart", fn := fun _ => fun
  | [d1, d2, d3] => { results := [.lit (.bool true)], args := [d1, d2, d3] }
  | _ => none }
def merkleApartRow : OpenClaim := { program := "ytlmcdkjobdcflaadoor", sum := "d83fe0080444fd646d6c53af97e5f42c9802a78dd72f292f463b1f2cba198a41", func := "masthead/mastheadlaw08.MerkleApart", spec := "merkleApart", unfollowed := true, recurses := true, named := ["masthead/sha2.k"], plainKeys := false, apart := false, laid := [("masthead/sha2.k", laid_masthead_sha2_k)] }
def MerkleApartSaid : Prop := merkleApartRow.holds Tryd.pinned (OpenSpec.ofChange merkleApartSpec)

/-- ITS FALSE NEIGHBOUR: 'it returns false'. Refute it at one input. -/
def merkleApartWrong : ChangeSpec := { name := "merkleApart", fn := fun _ => fun
  | [d1, d2, d3] => { results := [.lit (.bool false)], args := [d1, d2, d3] }
  | _ => none }
def MerkleApartWrongFalsely : Prop := merkleApartRow.holds Tryd.pinned (OpenSpec.ofChange merkleApartWrong)

/-- 'mastheadlaw09.BranchMakes': WHATEVER THE INPUT: true; the input reads as it did. -/
def branchMakesSpec : ChangeSpec := { name := "branchMakes", fn := fun _ => fun
  | [d1, d2] => { results := [.lit (.bool true)], args := [d1, d2] }
  | _ => none }
def branchMakesRow : OpenClaim := { program := "ytlmcdkjobdcflaadoor", sum := "d83fe0080444fd646d6c53af97e5f42c9802a78dd72f292f463b1f2cba198a41", func := "masthead/mastheadlaw09.BranchMakes", spec := "branchMakes", unfollowed := true, recurses := true, named := ["masthead/sha2.k"], plainKeys := false, apart := false, laid := [("masthead/sha2.k", laid_masthead_sha2_k)] }
def BranchMakesSaid : Prop := branchMakesRow.holds Tryd.pinned (OpenSpec.ofChange branchMakesSpec)

/-- ITS FALSE NEIGHBOUR: 'it returns false'. Refute it at one input. -/
def branchMakesWrong : ChangeSpec := { name := "branchMakes", fn := fun _ => fun
  | [d1, d2] => { results := [.lit (.bool false)], args := [d1, d2] }
  | _ => none }
def BranchMakesWrongFalsely : Prop := branchMakesRow.holds Tryd.pinned (OpenSpec.ofChange branchMakesWrong)

/-- 'mastheadlaw09.BranchUps': WHATEVER THE INPUT: true; the input reads as it did. -/
def branchUpsSpec : ChangeSpec := { name := "branchUps", fn := fun _ => fun
  | [d1, d2, d3] => { results := [.lit (.bool true)], args := [d1, d2, d3] }
  | _ => none }
def branchUpsRow : OpenClaim := { program := "ytlmcdkjobdcflaadoor", sum := "d83fe0080444fd646d6c53af97e5f42c9802a78dd72f292f463b1f2cba198a41", func := "masthead/mastheadlaw09.BranchUps", spec := "branchUps", unfollowed := true, recurses := true, named := ["masthead/sha2.k"], plainKeys := false, apart := false, laid := [("masthead/sha2.k", laid_masthead_sha2_k)] }
def BranchUpsSaid : Prop := branchUpsRow.holds Tryd.pinned (OpenSpec.ofChange branchUpsSpec)

/-- ITS FALSE NEIGHBOUR: 'it returns false'. Refute it at one input. -/
def branchUpsWrong : ChangeSpec := { name := "branchUps", fn := fun _ => fun
  | [d1, d2, d3] => { results := [.lit (.bool false)], args := [d1, d2, d3] }
  | _ => none }
def BranchUpsWrongFalsely : Prop := branchUpsRow.holds Tryd.pinned (OpenSpec.ofChange branchUpsWrong)

/-- 'mastheadlaw09.BranchBent': WHATEVER THE INPUT: true; the input reads as it did. -/
def branchBentSpec : ChangeSpec := { name := "branchBent", fn := fun _ => fun
  | [d] => { results := [.lit (.bool true)], args := [d] }
  | _ => none }
def branchBentRow : OpenClaim := { program := "ytlmcdkjobdcflaadoor", sum := "d83fe0080444fd646d6c53af97e5f42c9802a78dd72f292f463b1f2cba198a41", func := "masthead/mastheadlaw09.BranchBent", spec := "branchBent", unfollowed := true, recurses := true, named := ["masthead/sha2.k"], plainKeys := false, apart := false, laid := [("masthead/sha2.k", laid_masthead_sha2_k)] }
def BranchBentSaid : Prop := branchBentRow.holds Tryd.pinned (OpenSpec.ofChange branchBentSpec)

/-- ITS FALSE NEIGHBOUR: 'it returns false'. Refute it at one input. -/
def branchBentWrong : ChangeSpec := { name := "branchBent", fn := fun _ => fun
  | [d] => { results := [.lit (.bool false)], args := [d] }
  | _ => none }
def BranchBentWrongFalsely : Prop := branchBentRow.holds Tryd.pinned (OpenSpec.ofChange branchBentWrong)

/-- 'mastheadlaw09.BranchLevels': WHATEVER THE INPUT: true; the input reads as it did. -/
def branchLevelsSpec : ChangeSpec := { name := "branchLevels", fn := fun _ => fun
  | [d1, d2, d3] => { results := [.lit (.bool true)], args := [d1, d2, d3] }
  | _ => none }
def branchLevelsRow : OpenClaim := { program := "ytlmcdkjobdcflaadoor", sum := "d83fe0080444fd646d6c53af97e5f42c9802a78dd72f292f463b1f2cba198a41", func := "masthead/mastheadlaw09.BranchLevels", spec := "branchLevels", unfollowed := true, recurses := true, named := ["masthead/sha2.k"], plainKeys := false, apart := false, laid := [("masthead/sha2.k", laid_masthead_sha2_k)] }
def BranchLevelsSaid : Prop := branchLevelsRow.holds Tryd.pinned (OpenSpec.ofChange branchLevelsSpec)

/-- ITS FALSE NEIGHBOUR: 'it returns false'. Refute it at one input. -/
def branchLevelsWrong : ChangeSpec := { name := "branchLevels", fn := fun _ => fun
  | [d1, d2, d3] => { results := [.lit (.bool false)], args := [d1, d2, d3] }
  | _ => none }
def BranchLevelsWrongFalsely : Prop := branchLevelsRow.holds Tryd.pinned (OpenSpec.ofChange branchLevelsWrong)

/-- 'mastheadlaw09.BranchTwice': WHATEVER THE INPUT: true; the input reads as it did. -/
def branchTwiceSpec : ChangeSpec := { name := "branchTwice", fn := fun _ => fun
  | [d] => { results := [.lit (.bool true)], args := [d] }
  | _ => none }
def branchTwiceRow : OpenClaim := { program := "ytlmcdkjobdcflaadoor", sum := "d83fe0080444fd646d6c53af97e5f42c9802a78dd72f292f463b1f2cba198a41", func := "masthead/mastheadlaw09.BranchTwice", spec := "branchTwice", unfollowed := true, recurses := true, named := ["masthead/sha2.k"], plainKeys := false, apart := false, laid := [("masthead/sha2.k", laid_masthead_sha2_k)] }
def BranchTwiceSaid : Prop := branchTwiceRow.holds Tryd.pinned (OpenSpec.ofChange branchTwiceSpec)

/-- ITS FALSE NEIGHBOUR: 'it returns false'. Refute it at one input. -/
def branchTwiceWrong : ChangeSpec := { name := "branchTwice", fn := fun _ => fun
  | [d] => { results := [.lit (.bool false)], args := [d] }
  | _ => none }
def BranchTwiceWrongFalsely : Prop := branchTwiceRow.holds Tryd.pinned (OpenSpec.ofChange branchTwiceWrong)

/-- 'mastheadlaw10.ClashTexts': WHATEVER THE INPUT: true; the input reads as it did. -/
def clashTextsSpec : ChangeSpec := { name := "clashTexts", fn := fun _ => fun
  | [d] => { results := [.lit (.bool true)], args := [d] }
  | _ => none }
def clashTextsRow : OpenClaim := { program := "ytlmcdkjobdcflaadoor", sum := "d83fe0080444fd646d6c53af97e5f42c9802a78dd72f292f463b1f2cba198a41", func := "masthead/mastheadlaw10.ClashTexts", spec := "clashTexts", recurses := true, named := ["masthead/sha2.k"], plainKeys := false, apart := false, laid := [("masthead/sha2.k", laid_masthead_sha2_k)] }
def ClashTextsSaid : Prop := clashTextsRow.holds Tryd.pinned (OpenSpec.ofChange clashTextsSpec)

/-- ITS FALSE NEIGHBOUR: 'it returns false'. Refute it at one input. -/
def clashTextsWrong : ChangeSpec := { name := "clashTexts", fn := fun _ => fun
  | [d] => { results := [.lit (.bool false)], args := [d] }
  | _ => none }
def ClashTextsWrongFalsely : Prop := clashTextsRow.holds Tryd.pinned (OpenSpec.ofChange clashTextsWrong)

/-- 'mastheadlaw10.ClashFinds': WHATEVER THE INPUT: true; the input reads as it did. -/
def clashFindsSpec : ChangeSpec := { name := "clashFinds", fn := fun _ => fun
  | [d] => { results := [.lit (.bool true)], args := [d] }
  | _ => none }
def clashFindsRow : OpenClaim := { program := "ytlmcdkjobdcflaadoor", sum := "d83fe0080444fd646d6c53af97e5f42c9802a78dd72f292f463b1f2cba198a41", func := "masthead/mastheadlaw10.ClashFinds", spec := "clashFinds", recurses := true, named := ["masthead/sha2.k"], plainKeys := false, apart := false, laid := [("masthead/sha2.k", laid_masthead_sha2_k)] }
def ClashFindsSaid : Prop := clashFindsRow.holds Tryd.pinned (OpenSpec.ofChange clashFindsSpec)

/-- ITS FALSE NEIGHBOUR: 'it returns false'. Refute it at one input. -/
def clashFindsWrong : ChangeSpec := { name := "clashFinds", fn := fun _ => fun
  | [d] => { results := [.lit (.bool false)], args := [d] }
  | _ => none }
def ClashFindsWrongFalsely : Prop := clashFindsRow.holds Tryd.pinned (OpenSpec.ofChange clashFindsWrong)

/-- 'mastheadlaw10.ClashIs': WHATEVER THE INPUT: true; the input reads as it did. -/
def clashIsSpec : ChangeSpec := { name := "clashIs", fn := fun _ => fun
  | [d] => { results := [.lit (.bool true)], args := [d] }
  | _ => none }
def clashIsRow : OpenClaim := { program := "ytlmcdkjobdcflaadoor", sum := "d83fe0080444fd646d6c53af97e5f42c9802a78dd72f292f463b1f2cba198a41", func := "masthead/mastheadlaw10.ClashIs", spec := "clashIs", named := ["masthead/sha2.k"], plainKeys := false, apart := false, laid := [("masthead/sha2.k", laid_masthead_sha2_k)] }
def ClashIsSaid : Prop := clashIsRow.holds Tryd.pinned (OpenSpec.ofChange clashIsSpec)

/-- ITS FALSE NEIGHBOUR: 'it returns false'. Refute it at one input. -/
def clashIsWrong : ChangeSpec := { name := "clashIs", fn := fun _ => fun
  | [d] => { results := [.lit (.bool false)], args := [d] }
  | _ => none }
def ClashIsWrongFalsely : Prop := clashIsRow.holds Tryd.pinned (OpenSpec.ofChange clashIsWrong)

/-- 'mastheadlaw10.ClashOr': WHATEVER THE INPUT: true; the input reads as it did. -/
def clashOrSpec : ChangeSpec := { name := "clashOr", fn := fun _ => fun
  | [d] => { results := [.lit (.bool true)], args := [d] }
  | _ => none }
def clashOrRow : OpenClaim := { program := "ytlmcdkjobdcflaadoor", sum := "d83fe0080444fd646d6c53af97e5f42c9802a78dd72f292f463b1f2cba198a41", func := "masthead/mastheadlaw10.ClashOr", spec := "clashOr", unfollowed := true, recurses := true, named := ["masthead/sha2.k"], plainKeys := false, apart := false, laid := [("masthead/sha2.k", laid_masthead_sha2_k)] }
def ClashOrSaid : Prop := clashOrRow.holds Tryd.pinned (OpenSpec.ofChange clashOrSpec)

/-- ITS FALSE NEIGHBOUR: 'it returns false'. Refute it at one input. -/
def clashOrWrong : ChangeSpec := { name := "clashOr", fn := fun _ => fun
  | [d] => { results := [.lit (.bool false)], args := [d] }
  | _ => none }
def ClashOrWrongFalsely : Prop := clashOrRow.holds Tryd.pinned (OpenSpec.ofChange clashOrWrong)

/-- 'mastheadlaw10.ClashInner': WHATEVER THE INPUT: true; the input reads as it did. -/
def clashInnerSpec : ChangeSpec := { name := "clashInner", fn := fun _ => fun
  | [d] => { results := [.lit (.bool true)], args := [d] }
  | _ => none }
def clashInnerRow : OpenClaim := { program := "ytlmcdkjobdcflaadoor", sum := "d83fe0080444fd646d6c53af97e5f42c9802a78dd72f292f463b1f2cba198a41", func := "masthead/mastheadlaw10.ClashInner", spec := "clashInner", unfollowed := true, recurses := true, named := ["masthead/sha2.k"], plainKeys := false, apart := false, laid := [("masthead/sha2.k", laid_masthead_sha2_k)] }
def ClashInnerSaid : Prop := clashInnerRow.holds Tryd.pinned (OpenSpec.ofChange clashInnerSpec)

/-- ITS FALSE NEIGHBOUR: 'it returns false'. Refute it at one input. -/
def clashInnerWrong : ChangeSpec := { name := "clashInner", fn := fun _ => fun
  | [d] => { results := [.lit (.bool false)], args := [d] }
  | _ => none }
def ClashInnerWrongFalsely : Prop := clashInnerRow.holds Tryd.pinned (OpenSpec.ofChange clashInnerWrong)

/- THE SECOND FORM. 'bulk': how many values and letters a reading holds, each counted each time it is reached (what is shared counts as often as it is met; a slice's spare places count too). A statement '..UptoSaid' is the law's where the arguments, and the package variables that the reading takes, are together of bulk at most 1048576: NARROWER than '..Said'. Prove '..Said' where nothing that the law and all that it calls make is longer than what came in: it says more and counts as full. Else prove '..UptoSaid'. A law counts once. -/
mutual
def uptoBulk {H : Type} : DataW H → Nat
  | .lit (.string bytes) => bytes.length + 1
  | .lit _ => 1
  | .nil => 1
  | .ptr d => uptoBulk d + 1
  | .slice elems spare => uptoBulkAll elems + uptoBulkAll spare + 1
  | .agg parts => uptoBulkAll parts + 1
  | .iface _ d => uptoBulk d + 1
  | .map entries => uptoBulkEntries entries + 1
  | .held _ => 1
def uptoBulkAll {H : Type} : List (DataW H) → Nat
  | [] => 0
  | d :: r => uptoBulk d + uptoBulkAll r
def uptoBulkEntries {H : Type} : List (Lit × DataW H) → Nat
  | [] => 0
  | x :: r => uptoBulkEntry x + uptoBulkEntries r
def uptoBulkEntry {H : Type} : Lit × DataW H → Nat
  | (.string bytes, d) => bytes.length + uptoBulk d + 1
  | (_, d) => uptoBulk d + 1
 end
def uptoSmall : (H : Type) → List (DataW H) → Bool := fun _ ds => decide (uptoBulkAll ds ≤ 1048576)
def OpenSpec.upto (s : _root_.Go.ChangeSpec) : _root_.Go.OpenSpec := { _root_.Go.OpenSpec.ofChange s with cond := some uptoSmall }

/-- 'mastheadlaw08.MerkleRoots', WHERE WHAT IT READS IS OF BULK AT MOST 1048576: true; the input reads as it did. -/
def merkleRootsUptoRow : OpenClaim := { program := "ytlmcdkjobdcflaadoor", sum := "d83fe0080444fd646d6c53af97e5f42c9802a78dd72f292f463b1f2cba198a41", func := "masthead/mastheadlaw08.MerkleRoots", spec := "merkleRoots", unfollowed := true, recurses := true, named := ["masthead/sha2.k"], plainKeys := false, apart := false, laid := [("masthead/sha2.k", laid_masthead_sha2_k)], narrowed := true }
def MerkleRootsUptoSaid : Prop := merkleRootsUptoRow.holds Tryd.pinned (OpenSpec.upto merkleRootsSpec)

/-- 'mastheadlaw08.MerkleAbove', WHERE WHAT IT READS IS OF BULK AT MOST 1048576: true; the input reads as it did. -/
def merkleAboveUptoRow : OpenClaim := { program := "ytlmcdkjobdcflaadoor", sum := "d83fe0080444fd646d6c53af97e5f42c9802a78dd72f292f463b1f2cba198a41", func := "masthead/mastheadlaw08.MerkleAbove", spec := "merkleAbove", unfollowed := true, recurses := true, named := ["masthead/sha2.k"], plainKeys := false, apart := false, laid := [("masthead/sha2.k", laid_masthead_sha2_k)], narrowed := true }
def MerkleAboveUptoSaid : Prop := merkleAboveUptoRow.holds Tryd.pinned (OpenSpec.upto merkleAboveSpec)

/-- 'mastheadlaw08.MerkleDoubled', WHERE WHAT IT READS IS OF BULK AT MOST 1048576: true; the input reads as it did. -/
def merkleDoubledUptoRow : OpenClaim := { program := "ytlmcdkjobdcflaadoor", sum := "d83fe0080444fd646d6c53af97e5f42c9802a78dd72f292f463b1f2cba198a41", func := "masthead/mastheadlaw08.MerkleDoubled", spec := "merkleDoubled", unfollowed := true, recurses := true, named := ["masthead/sha2.k"], plainKeys := false, apart := false, laid := [("masthead/sha2.k", laid_masthead_sha2_k)], narrowed := true }
def MerkleDoubledUptoSaid : Prop := merkleDoubledUptoRow.holds Tryd.pinned (OpenSpec.upto merkleDoubledSpec)

/-- 'mastheadlaw08.MerkleTwice', WHERE WHAT IT READS IS OF BULK AT MOST 1048576: true; the input reads as it did. -/
def merkleTwiceUptoRow : OpenClaim := { program := "ytlmcdkjobdcflaadoor", sum := "d83fe0080444fd646d6c53af97e5f42c9802a78dd72f292f463b1f2cba198a41", func := "masthead/mastheadlaw08.MerkleTwice", spec := "merkleTwice", unfollowed := true, recurses := true, named := ["masthead/sha2.k"], plainKeys := false, apart := false, laid := [("masthead/sha2.k", laid_masthead_sha2_k)], narrowed := true }
def MerkleTwiceUptoSaid : Prop := merkleTwiceUptoRow.holds Tryd.pinned (OpenSpec.upto merkleTwiceSpec)

/-- 'mastheadlaw08.MerkleDepths', WHERE WHAT IT READS IS OF BULK AT MOST 1048576: true; the input reads as it did. -/
def merkleDepthsUptoRow : OpenClaim := { program := "ytlmcdkjobdcflaadoor", sum := "d83fe0080444fd646d6c53af97e5f42c9802a78dd72f292f463b1f2cba198a41", func := "masthead/mastheadlaw08.MerkleDepths", spec := "merkleDepths", unfollowed := true, recurses := true, named := ["masthead/sha2.k"], plainKeys := false, apart := false, laid := [("masthead/sha2.k", laid_masthead_sha2_k)], narrowed := true }
def MerkleDepthsUptoSaid : Prop := merkleDepthsUptoRow.holds Tryd.pinned (OpenSpec.upto merkleDepthsSpec)

/-- 'mastheadlaw08.MerkleApart', WHERE WHAT IT READS IS OF BULK AT MOST 1048576: true; the input reads as it did. -/
def merkleApartUptoRow : OpenClaim := { program := "ytlmcdkjobdcflaadoor", sum := "d83fe0080444fd646d6c53af97e5f42c9802a78dd72f292f463b1f2cba198a41", func := "masthead/mastheadlaw08.MerkleApart", spec := "merkleApart", unfollowed := true, recurses := true, named := ["masthead/sha2.k"], plainKeys := false, apart := false, laid := [("masthead/sha2.k", laid_masthead_sha2_k)], narrowed := true }
def MerkleApartUptoSaid : Prop := merkleApartUptoRow.holds Tryd.pinned (OpenSpec.upto merkleApartSpec)

/-- 'mastheadlaw09.BranchMakes', WHERE WHAT IT READS IS OF BULK AT MOST 1048576: true; the input reads as it did. -/
def branchMakesUptoRow : OpenClaim := { program := "ytlmcdkjobdcflaadoor", sum := "d83fe0080444fd646d6c53af97e5f42c9802a78dd72f292f463b1f2cba198a41", func := "masthead/mastheadlaw09.BranchMakes", spec := "branchMakes", unfollowed := true, recurses := true, named := ["masthead/sha2.k"], plainKeys := false, apart := false, laid := [("masthead/sha2.k", laid_masthead_sha2_k)], narrowed := true }
def BranchMakesUptoSaid : Prop := branchMakesUptoRow.holds Tryd.pinned (OpenSpec.upto branchMakesSpec)

/-- 'mastheadlaw09.BranchUps', WHERE WHAT IT READS IS OF BULK AT MOST 1048576: true; the input reads as it did. -/
def branchUpsUptoRow : OpenClaim := { program := "ytlmcdkjobdcflaadoor", sum := "d83fe0080444fd646d6c53af97e5f42c9802a78dd72f292f463b1f2cba198a41", func := "masthead/mastheadlaw09.BranchUps", spec := "branchUps", unfollowed := true, recurses := true, named := ["masthead/sha2.k"], plainKeys := false, apart := false, laid := [("masthead/sha2.k", laid_masthead_sha2_k)], narrowed := true }
def BranchUpsUptoSaid : Prop := branchUpsUptoRow.holds Tryd.pinned (OpenSpec.upto branchUpsSpec)

/-- 'mastheadlaw09.BranchBent', WHERE WHAT IT READS IS OF BULK AT MOST 1048576: true; the input reads as it did. -/
def branchBentUptoRow : OpenClaim := { program := "ytlmcdkjobdcflaadoor", sum := "d83fe0080444fd646d6c53af97e5f42c9802a78dd72f292f463b1f2cba198a41", func := "masthead/mastheadlaw09.BranchBent", spec := "branchBent", unfollowed := true, recurses := true, named := ["masthead/sha2.k"], plainKeys := false, apart := false, laid := [("masthead/sha2.k", laid_masthead_sha2_k)], narrowed := true }
def BranchBentUptoSaid : Prop := branchBentUptoRow.holds Tryd.pinned (OpenSpec.upto branchBentSpec)

/-- 'mastheadlaw09.BranchLevels', WHERE WHAT IT READS IS OF BULK AT MOST 1048576: true; the input reads as it did. -/
def branchLevelsUptoRow : OpenClaim := { program := "ytlmcdkjobdcflaadoor", sum := "d83fe0080444fd646d6c53af97e5f42c9802a78dd72f292f463b1f2cba198a41", func := "masthead/mastheadlaw09.BranchLevels", spec := "branchLevels", unfollowed := true, recurses := true, named := ["masthead/sha2.k"], plainKeys := false, apart := false, laid := [("masthead/sha2.k", laid_masthead_sha2_k)], narrowed := true }
def BranchLevelsUptoSaid : Prop := branchLevelsUptoRow.holds Tryd.pinned (OpenSpec.upto branchLevelsSpec)

/-- 'mastheadlaw09.BranchTwice', WHERE WHAT IT READS IS OF BULK AT MOST 1048576: true; the input reads as it did. -/
def branchTwiceUptoRow : OpenClaim := { program := "ytlmcdkjobdcflaadoor", sum := "d83fe0080444fd646d6c53af97e5f42c9802a78dd72f292f463b1f2cba198a41", func := "masthead/mastheadlaw09.BranchTwice", spec := "branchTwice", unfollowed := true, recurses := true, named := ["masthead/sha2.k"], plainKeys := false, apart := false, laid := [("masthead/sha2.k", laid_masthead_sha2_k)], narrowed := true }
def BranchTwiceUptoSaid : Prop := branchTwiceUptoRow.holds Tryd.pinned (OpenSpec.upto branchTwiceSpec)

/-- 'mastheadlaw10.ClashTexts', WHERE WHAT IT READS IS OF BULK AT MOST 1048576: true; the input reads as it did. -/
def clashTextsUptoRow : OpenClaim := { program := "ytlmcdkjobdcflaadoor", sum := "d83fe0080444fd646d6c53af97e5f42c9802a78dd72f292f463b1f2cba198a41", func := "masthead/mastheadlaw10.ClashTexts", spec := "clashTexts", recurses := true, named := ["masthead/sha2.k"], plainKeys := false, apart := false, laid := [("masthead/sha2.k", laid_masthead_sha2_k)], narrowed := true }
def ClashTextsUptoSaid : Prop := clashTextsUptoRow.holds Tryd.pinned (OpenSpec.upto clashTextsSpec)

/-- 'mastheadlaw10.ClashFinds', WHERE WHAT IT READS IS OF BULK AT MOST 1048576: true; the input reads as it did. -/
def clashFindsUptoRow : OpenClaim := { program := "ytlmcdkjobdcflaadoor", sum := "d83fe0080444fd646d6c53af97e5f42c9802a78dd72f292f463b1f2cba198a41", func := "masthead/mastheadlaw10.ClashFinds", spec := "clashFinds", recurses := true, named := ["masthead/sha2.k"], plainKeys := false, apart := false, laid := [("masthead/sha2.k", laid_masthead_sha2_k)], narrowed := true }
def ClashFindsUptoSaid : Prop := clashFindsUptoRow.holds Tryd.pinned (OpenSpec.upto clashFindsSpec)

/-- 'mastheadlaw10.ClashIs', WHERE WHAT IT READS IS OF BULK AT MOST 1048576: true; the input reads as it did. -/
def clashIsUptoRow : OpenClaim := { program := "ytlmcdkjobdcflaadoor", sum := "d83fe0080444fd646d6c53af97e5f42c9802a78dd72f292f463b1f2cba198a41", func := "masthead/mastheadlaw10.ClashIs", spec := "clashIs", named := ["masthead/sha2.k"], plainKeys := false, apart := false, laid := [("masthead/sha2.k", laid_masthead_sha2_k)], narrowed := true }
def ClashIsUptoSaid : Prop := clashIsUptoRow.holds Tryd.pinned (OpenSpec.upto clashIsSpec)

/-- 'mastheadlaw10.ClashOr', WHERE WHAT IT READS IS OF BULK AT MOST 1048576: true; the input reads as it did. -/
def clashOrUptoRow : OpenClaim := { program := "ytlmcdkjobdcflaadoor", sum := "d83fe0080444fd646d6c53af97e5f42c9802a78dd72f292f463b1f2cba198a41", func := "masthead/mastheadlaw10.ClashOr", spec := "clashOr", unfollowed := true, recurses := true, named := ["masthead/sha2.k"], plainKeys := false, apart := false, laid := [("masthead/sha2.k", laid_masthead_sha2_k)], narrowed := true }
def ClashOrUptoSaid : Prop := clashOrUptoRow.holds Tryd.pinned (OpenSpec.upto clashOrSpec)

/-- 'mastheadlaw10.ClashInner', WHERE WHAT IT READS IS OF BULK AT MOST 1048576: true; the input reads as it did. -/
def clashInnerUptoRow : OpenClaim := { program := "ytlmcdkjobdcflaadoor", sum := "d83fe0080444fd646d6c53af97e5f42c9802a78dd72f292f463b1f2cba198a41", func := "masthead/mastheadlaw10.ClashInner", spec := "clashInner", unfollowed := true, recurses := true, named := ["masthead/sha2.k"], plainKeys := false, apart := false, laid := [("masthead/sha2.k", laid_masthead_sha2_k)], narrowed := true }
def ClashInnerUptoSaid : Prop := clashInnerUptoRow.holds Tryd.pinned (OpenSpec.upto clashInnerSpec)

end Rows
end Go.Proofs.YtlmcdkjobdcflaaDoor
