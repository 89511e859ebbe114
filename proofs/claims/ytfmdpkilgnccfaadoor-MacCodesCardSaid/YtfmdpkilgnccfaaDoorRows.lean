/-
  NARROWER THAN 'FOR EVERY INPUT', by the rows' own cells (each row's printed sentence says how): ShaSums: laid · ShaPieces: laid · ShaPads: laid · ShaChain: laid · ShaWrong: laid · ShaEmpty: laid · MacIdeal: laid · MacKeys: laid · MacOrder: laid · KdfMore: laid · MacSteps: laid · MacProves: laid · MacApart: laid · MacCodes: laid · KdfHashes: laid · KdfRounds: laid · KdfApart: laid · KdfSalts: laid.
  DERIVED. THE GIVEN ROWS OF THIS SEAT. 18 by the template 'for every input the law returns true; each argument reads behind the call as it read before'; 0 by the template 'total and deterministic' (their statements: YtfmdpkilgnccfaaDoorTotals.lean).
  GIVEN WITH THE SEED: the statements are not yours to turn. If you find one false, say at which input.
  Laid BY PROGRAM, IN A SANDBOX (cutbox-rows.mjs): the forced cells as the released guide's own fill.sh prints them over the translation aba9f2b1c23dddb9… (all of the seat's roots in one cut). By AI agents, Wed Nov 11 2026. No macro, syntax, notation, axiom, sorry.
-/
import Derived.Test.YtfmdpkilgnccfaaDoorChecked
import GoSem.Claim
import GoSem.ClaimJoined
import GoSem.ClaimMapViews
import Derived.JoinedTies
import Derived.KernelRfl
namespace Go.Proofs.YtfmdpkilgnccfaaDoor
/- THE CELL 'sum', in the pinned program and in every row, IS THE sha256 OF THE DUMP (.gsa) THAT YtfmdpkilgnccfaaDoorProg.lean LOADS. Nothing in Lean hashes anything: it is a label: what it is worth is what the hold of that sum in a sandbox is worth. -/
noncomputable def Tryd.pinned : Pinned := { name := "ytfmdpkilgnccfaadoor", sum := "aba9f2b1c23dddb96d1b1d72aaa21876f2eeaed86d167ba29d10e21d1169a7ef", checked := Tryd.checked }
namespace Rows
def none {H : Type} : Left H := { results := [], args := [] }

/- WHAT THE LISTED PACKAGE-LEVEL VARIABLES READ AS WHEN THE CALL BEGINS. Each datum BY PROGRAM (the guide's laid-datum.mjs) off the statement by which the dump's own 'gosem.cut.vars' lays the variable. In a bare row this is a premise. The card (YtfmdpkilgnccfaaDoorCards.lean) ties it to the program's text. -/
def laid_wicketman_sha_roots {H : Type} : DataW H := .agg [.lit (.int .u32 1116352408), .lit (.int .u32 1899447441), .lit (.int .u32 3049323471), .lit (.int .u32 3921009573), .lit (.int .u32 961987163), .lit (.int .u32 1508970993), .lit (.int .u32 2453635748), .lit (.int .u32 2870763221), .lit (.int .u32 3624381080), .lit (.int .u32 310598401), .lit (.int .u32 607225278), .lit (.int .u32 1426881987), .lit (.int .u32 1925078388), .lit (.int .u32 2162078206), .lit (.int .u32 2614888103), .lit (.int .u32 3248222580), .lit (.int .u32 3835390401), .lit (.int .u32 4022224774), .lit (.int .u32 264347078), .lit (.int .u32 604807628), .lit (.int .u32 770255983), .lit (.int .u32 1249150122), .lit (.int .u32 1555081692), .lit (.int .u32 1996064986), .lit (.int .u32 2554220882), .lit (.int .u32 2821834349), .lit (.int .u32 2952996808), .lit (.int .u32 3210313671), .lit (.int .u32 3336571891), .lit (.int .u32 3584528711), .lit (.int .u32 113926993), .lit (.int .u32 338241895), .lit (.int .u32 666307205), .lit (.int .u32 773529912), .lit (.int .u32 1294757372), .lit (.int .u32 1396182291), .lit (.int .u32 1695183700), .lit (.int .u32 1986661051), .lit (.int .u32 2177026350), .lit (.int .u32 2456956037), .lit (.int .u32 2730485921), .lit (.int .u32 2820302411), .lit (.int .u32 3259730800), .lit (.int .u32 3345764771), .lit (.int .u32 3516065817), .lit (.int .u32 3600352804), .lit (.int .u32 4094571909), .lit (.int .u32 275423344), .lit (.int .u32 430227734), .lit (.int .u32 506948616), .lit (.int .u32 659060556), .lit (.int .u32 883997877), .lit (.int .u32 958139571), .lit (.int .u32 1322822218), .lit (.int .u32 1537002063), .lit (.int .u32 1747873779), .lit (.int .u32 1955562222), .lit (.int .u32 2024104815), .lit (.int .u32 2227730452), .lit (.int .u32 2361852424), .lit (.int .u32 2428436474), .lit (.int .u32 2756734187), .lit (.int .u32 3204031479), .lit (.int .u32 3329325298)]

/-- 'wicketmanlaw02.ShaSums': WHATEVER THE INPUT: true; the input reads as it did. -/
def shaSumsSpec : ChangeSpec := { name := "shaSums", fn := fun _ => fun
  | [d1, d2, d3, d4, d5, d6] => { results := [.lit (.bool true)], args := [d1, d2, d3, d4, d5, d6] }
  | _ => none }
def shaSumsRow : OpenClaim := { program := "ytfmdpkilgnccfaadoor", sum := "aba9f2b1c23dddb96d1b1d72aaa21876f2eeaed86d167ba29d10e21d1169a7ef", func := "wicketman/wicketmanlaw02.ShaSums", spec := "shaSums", unfollowed := true, recurses := true, named := ["wicketman/sha.roots"], apart := false, laid := [("wicketman/sha.roots", laid_wicketman_sha_roots)] }
def ShaSumsSaid : Prop := shaSumsRow.holds Tryd.pinned (OpenSpec.ofChange shaSumsSpec)

/-- ITS FALSE NEIGHBOUR: 'it returns false'. Refute it at one input. -/
def shaSumsWrong : ChangeSpec := { name := "shaSums", fn := fun _ => fun
  | [d1, d2, d3, d4, d5, d6] => { results := [.lit (.bool false)], args := [d1, d2, d3, d4, d5, d6] }
  | _ => none }
def ShaSumsWrongFalsely : Prop := shaSumsRow.holds Tryd.pinned (OpenSpec.ofChange shaSumsWrong)

/-- 'wicketmanlaw02.ShaPieces': WHATEVER THE INPUT: true; the input reads as it did. -/
def shaPiecesSpec : ChangeSpec := { name := "shaPieces", fn := fun _ => fun
  | [d1, d2, d3] => { results := [.lit (.bool true)], args := [d1, d2, d3] }
  | _ => none }
def shaPiecesRow : OpenClaim := { program := "ytfmdpkilgnccfaadoor", sum := "aba9f2b1c23dddb96d1b1d72aaa21876f2eeaed86d167ba29d10e21d1169a7ef", func := "wicketman/wicketmanlaw02.ShaPieces", spec := "shaPieces", unfollowed := true, recurses := true, named := ["wicketman/sha.roots"], apart := false, laid := [("wicketman/sha.roots", laid_wicketman_sha_roots)] }
def ShaPiecesSaid : Prop := shaPiecesRow.holds Tryd.pinned (OpenSpec.ofChange shaPiecesSpec)

/-- ITS FALSE NEIGHBOUR: 'it returns false'. Refute it at one input. -/
def shaPiecesWrong : ChangeSpec := { name := "shaPieces", fn := fun _ => fun
  | [d1, d2, d3] => { results := [.lit (.bool false)], args := [d1, d2, d3] }
  | _ => none }
def ShaPiecesWrongFalsely : Prop := shaPiecesRow.holds Tryd.pinned (OpenSpec.ofChange shaPiecesWrong)

/-- 'wicketmanlaw02.ShaPads': WHATEVER THE INPUT: true; the input reads as it did. -/
def shaPadsSpec : ChangeSpec := { name := "shaPads", fn := fun _ => fun
  | [d] => { results := [.lit (.bool true)], args := [d] }
  | _ => none }
def shaPadsRow : OpenClaim := { program := "ytfmdpkilgnccfaadoor", sum := "aba9f2b1c23dddb96d1b1d72aaa21876f2eeaed86d167ba29d10e21d1169a7ef", func := "wicketman/wicketmanlaw02.ShaPads", spec := "shaPads", unfollowed := true, recurses := true, named := ["wicketman/sha.roots"], apart := false, laid := [("wicketman/sha.roots", laid_wicketman_sha_roots)] }
def ShaPadsSaid : Prop := shaPadsRow.holds Tryd.pinned (OpenSpec.ofChange shaPadsSpec)

/-- ITS FALSE NEIGHBOUR: 'it returns false'. Refute it at one input. -/
def shaPadsWrong : ChangeSpec := { name := "shaPads", fn := fun _ => fun
  | [d] => { results := [.lit (.bool false)], args := [d] }
  | _ => none }
def ShaPadsWrongFalsely : Prop := shaPadsRow.holds Tryd.pinned (OpenSpec.ofChange shaPadsWrong)

/-- 'wicketmanlaw02.ShaChain': WHATEVER THE INPUT: true; the input reads as it did. -/
def shaChainSpec : ChangeSpec := { name := "shaChain", fn := fun _ => fun
  | [d] => { results := [.lit (.bool true)], args := [d] }
  | _ => none }
def shaChainRow : OpenClaim := { program := "ytfmdpkilgnccfaadoor", sum := "aba9f2b1c23dddb96d1b1d72aaa21876f2eeaed86d167ba29d10e21d1169a7ef", func := "wicketman/wicketmanlaw02.ShaChain", spec := "shaChain", unfollowed := true, recurses := true, named := ["wicketman/sha.roots"], apart := false, laid := [("wicketman/sha.roots", laid_wicketman_sha_roots)] }
def ShaChainSaid : Prop := shaChainRow.holds Tryd.pinned (OpenSpec.ofChange shaChainSpec)

/-- ITS FALSE NEIGHBOUR: 'it returns false'. Refute it at one input. -/
def shaChainWrong : ChangeSpec := { name := "shaChain", fn := fun _ => fun
  | [d] => { results := [.lit (.bool false)], args := [d] }
  | _ => none }
def ShaChainWrongFalsely : Prop := shaChainRow.holds Tryd.pinned (OpenSpec.ofChange shaChainWrong)

/-- 'wicketmanlaw02.ShaWrong': WHATEVER THE INPUT: true; the input reads as it did. -/
def shaWrongSpec : ChangeSpec := { name := "shaWrong", fn := fun _ => fun
  | [d1, d2, d3, d4] => { results := [.lit (.bool true)], args := [d1, d2, d3, d4] }
  | _ => none }
def shaWrongRow : OpenClaim := { program := "ytfmdpkilgnccfaadoor", sum := "aba9f2b1c23dddb96d1b1d72aaa21876f2eeaed86d167ba29d10e21d1169a7ef", func := "wicketman/wicketmanlaw02.ShaWrong", spec := "shaWrong", unfollowed := true, recurses := true, named := ["wicketman/sha.roots"], apart := false, laid := [("wicketman/sha.roots", laid_wicketman_sha_roots)] }
def ShaWrongSaid : Prop := shaWrongRow.holds Tryd.pinned (OpenSpec.ofChange shaWrongSpec)

/-- ITS FALSE NEIGHBOUR: 'it returns false'. Refute it at one input. -/
def shaWrongWrong : ChangeSpec := { name := "shaWrong", fn := fun _ => fun
  | [d1, d2, d3, d4] => { results := [.lit (.bool false)], args := [d1, d2, d3, d4] }
  | _ => none }
def ShaWrongWrongFalsely : Prop := shaWrongRow.holds Tryd.pinned (OpenSpec.ofChange shaWrongWrong)

/-- 'wicketmanlaw02.ShaEmpty': WHATEVER THE INPUT: true; the input reads as it did. -/
def shaEmptySpec : ChangeSpec := { name := "shaEmpty", fn := fun _ => fun
  | [d] => { results := [.lit (.bool true)], args := [d] }
  | _ => none }
def shaEmptyRow : OpenClaim := { program := "ytfmdpkilgnccfaadoor", sum := "aba9f2b1c23dddb96d1b1d72aaa21876f2eeaed86d167ba29d10e21d1169a7ef", func := "wicketman/wicketmanlaw02.ShaEmpty", spec := "shaEmpty", unfollowed := true, recurses := true, named := ["wicketman/sha.roots"], apart := false, laid := [("wicketman/sha.roots", laid_wicketman_sha_roots)] }
def ShaEmptySaid : Prop := shaEmptyRow.holds Tryd.pinned (OpenSpec.ofChange shaEmptySpec)

/-- ITS FALSE NEIGHBOUR: 'it returns false'. Refute it at one input. -/
def shaEmptyWrong : ChangeSpec := { name := "shaEmpty", fn := fun _ => fun
  | [d] => { results := [.lit (.bool false)], args := [d] }
  | _ => none }
def ShaEmptyWrongFalsely : Prop := shaEmptyRow.holds Tryd.pinned (OpenSpec.ofChange shaEmptyWrong)

/-- 'wicketmanlaw03.MacIdeal': WHATEVER THE INPUT: true; the input reads as it did. -/
def macIdealSpec : ChangeSpec := { name := "macIdeal", fn := fun _ => fun
  | [d1, d2, d3] => { results := [.lit (.bool true)], args := [d1, d2, d3] }
  | _ => none }
def macIdealRow : OpenClaim := { program := "ytfmdpkilgnccfaadoor", sum := "aba9f2b1c23dddb96d1b1d72aaa21876f2eeaed86d167ba29d10e21d1169a7ef", func := "wicketman/wicketmanlaw03.MacIdeal", spec := "macIdeal", inPlace := ["internal/bytealg.MakeNoZero"], unfollowed := true, recurses := true, named := ["wicketman/sha.roots"], apart := false, laid := [("wicketman/sha.roots", laid_wicketman_sha_roots)] }
def MacIdealSaid : Prop := macIdealRow.holds Tryd.pinned (OpenSpec.ofChange macIdealSpec)

/-- ITS FALSE NEIGHBOUR: 'it returns false'. Refute it at one input. -/
def macIdealWrong : ChangeSpec := { name := "macIdeal", fn := fun _ => fun
  | [d1, d2, d3] => { results := [.lit (.bool false)], args := [d1, d2, d3] }
  | _ => none }
def MacIdealWrongFalsely : Prop := macIdealRow.holds Tryd.pinned (OpenSpec.ofChange macIdealWrong)

/-- 'wicketmanlaw03.MacKeys': WHATEVER THE INPUT: true; the input reads as it did. -/
def macKeysSpec : ChangeSpec := { name := "macKeys", fn := fun _ => fun
  | [d1, d2, d3] => { results := [.lit (.bool true)], args := [d1, d2, d3] }
  | _ => none }
def macKeysRow : OpenClaim := { program := "ytfmdpkilgnccfaadoor", sum := "aba9f2b1c23dddb96d1b1d72aaa21876f2eeaed86d167ba29d10e21d1169a7ef", func := "wicketman/wicketmanlaw03.MacKeys", spec := "macKeys", inPlace := ["internal/bytealg.MakeNoZero"], unfollowed := true, recurses := true, named := ["wicketman/sha.roots"], apart := false, laid := [("wicketman/sha.roots", laid_wicketman_sha_roots)] }
def MacKeysSaid : Prop := macKeysRow.holds Tryd.pinned (OpenSpec.ofChange macKeysSpec)

/-- ITS FALSE NEIGHBOUR: 'it returns false'. Refute it at one input. -/
def macKeysWrong : ChangeSpec := { name := "macKeys", fn := fun _ => fun
  | [d1, d2, d3] => { results := [.lit (.bool false)], args := [d1, d2, d3] }
  | _ => none }
def MacKeysWrongFalsely : Prop := macKeysRow.holds Tryd.pinned (OpenSpec.ofChange macKeysWrong)

/-- 'wicketmanlaw03.MacOrder': WHATEVER THE INPUT: true; the input reads as it did. -/
def macOrderSpec : ChangeSpec := { name := "macOrder", fn := fun _ => fun
  | [d1, d2, d3] => { results := [.lit (.bool true)], args := [d1, d2, d3] }
  | _ => none }
def macOrderRow : OpenClaim := { program := "ytfmdpkilgnccfaadoor", sum := "aba9f2b1c23dddb96d1b1d72aaa21876f2eeaed86d167ba29d10e21d1169a7ef", func := "wicketman/wicketmanlaw03.MacOrder", spec := "macOrder", inPlace := ["internal/bytealg.MakeNoZero"], unfollowed := true, recurses := true, named := ["wicketman/sha.roots"], apart := false, laid := [("wicketman/sha.roots", laid_wicketman_sha_roots)] }
def MacOrderSaid : Prop := macOrderRow.holds Tryd.pinned (OpenSpec.ofChange macOrderSpec)

/-- ITS FALSE NEIGHBOUR: 'it returns false'. Refute it at one input. -/
def macOrderWrong : ChangeSpec := { name := "macOrder", fn := fun _ => fun
  | [d1, d2, d3] => { results := [.lit (.bool false)], args := [d1, d2, d3] }
  | _ => none }
def MacOrderWrongFalsely : Prop := macOrderRow.holds Tryd.pinned (OpenSpec.ofChange macOrderWrong)

/-- 'wicketmanlaw04.KdfMore': WHATEVER THE INPUT: true; the input reads as it did. -/
def kdfMoreSpec : ChangeSpec := { name := "kdfMore", fn := fun _ => fun
  | [d1, d2, d3] => { results := [.lit (.bool true)], args := [d1, d2, d3] }
  | _ => none }
def kdfMoreRow : OpenClaim := { program := "ytfmdpkilgnccfaadoor", sum := "aba9f2b1c23dddb96d1b1d72aaa21876f2eeaed86d167ba29d10e21d1169a7ef", func := "wicketman/wicketmanlaw04.KdfMore", spec := "kdfMore", inPlace := ["internal/bytealg.MakeNoZero"], unfollowed := true, recurses := true, named := ["wicketman/sha.roots"], apart := false, laid := [("wicketman/sha.roots", laid_wicketman_sha_roots)] }
def KdfMoreSaid : Prop := kdfMoreRow.holds Tryd.pinned (OpenSpec.ofChange kdfMoreSpec)

/-- ITS FALSE NEIGHBOUR: 'it returns false'. Refute it at one input. -/
def kdfMoreWrong : ChangeSpec := { name := "kdfMore", fn := fun _ => fun
  | [d1, d2, d3] => { results := [.lit (.bool false)], args := [d1, d2, d3] }
  | _ => none }
def KdfMoreWrongFalsely : Prop := kdfMoreRow.holds Tryd.pinned (OpenSpec.ofChange kdfMoreWrong)

/-- 'wicketmanlaw03.MacSteps': WHATEVER THE INPUT: true; the input reads as it did. -/
def macStepsSpec : ChangeSpec := { name := "macSteps", fn := fun _ => fun
  | [d1, d2, d3, d4] => { results := [.lit (.bool true)], args := [d1, d2, d3, d4] }
  | _ => none }
def macStepsRow : OpenClaim := { program := "ytfmdpkilgnccfaadoor", sum := "aba9f2b1c23dddb96d1b1d72aaa21876f2eeaed86d167ba29d10e21d1169a7ef", func := "wicketman/wicketmanlaw03.MacSteps", spec := "macSteps", inPlace := ["internal/bytealg.MakeNoZero"], unfollowed := true, recurses := true, named := ["wicketman/sha.roots"], apart := false, laid := [("wicketman/sha.roots", laid_wicketman_sha_roots)] }
def MacStepsSaid : Prop := macStepsRow.holds Tryd.pinned (OpenSpec.ofChange macStepsSpec)

/-- ITS FALSE NEIGHBOUR: 'it returns false'. Refute it at one input. -/
def macStepsWrong : ChangeSpec := { name := "macSteps", fn := fun _ => fun
  | [d1, d2, d3, d4] => { results := [.lit (.bool false)], args := [d1, d2, d3, d4] }
  | _ => none }
def MacStepsWrongFalsely : Prop := macStepsRow.holds Tryd.pinned (OpenSpec.ofChange macStepsWrong)

/-- 'wicketmanlaw03.MacProves': WHATEVER THE INPUT: true; the input reads as it did. -/
def macProvesSpec : ChangeSpec := { name := "macProves", fn := fun _ => fun
  | [d1, d2, d3, d4] => { results := [.lit (.bool true)], args := [d1, d2, d3, d4] }
  | _ => none }
def macProvesRow : OpenClaim := { program := "ytfmdpkilgnccfaadoor", sum := "aba9f2b1c23dddb96d1b1d72aaa21876f2eeaed86d167ba29d10e21d1169a7ef", func := "wicketman/wicketmanlaw03.MacProves", spec := "macProves", inPlace := ["internal/bytealg.MakeNoZero"], unfollowed := true, recurses := true, named := ["wicketman/sha.roots"], apart := false, laid := [("wicketman/sha.roots", laid_wicketman_sha_roots)] }
def MacProvesSaid : Prop := macProvesRow.holds Tryd.pinned (OpenSpec.ofChange macProvesSpec)

/-- ITS FALSE NEIGHBOUR: 'it returns false'. Refute it at one input. -/
def macProvesWrong : ChangeSpec := { name := "macProves", fn := fun _ => fun
  | [d1, d2, d3, d4] => { results := [.lit (.bool false)], args := [d1, d2, d3, d4] }
  | _ => none }
def MacProvesWrongFalsely : Prop := macProvesRow.holds Tryd.pinned (OpenSpec.ofChange macProvesWrong)

/-- 'wicketmanlaw03.MacApart': WHATEVER THE INPUT: true; the input reads as it did. -/
def macApartSpec : ChangeSpec := { name := "macApart", fn := fun _ => fun
  | [d1, d2] => { results := [.lit (.bool true)], args := [d1, d2] }
  | _ => none }
def macApartRow : OpenClaim := { program := "ytfmdpkilgnccfaadoor", sum := "aba9f2b1c23dddb96d1b1d72aaa21876f2eeaed86d167ba29d10e21d1169a7ef", func := "wicketman/wicketmanlaw03.MacApart", spec := "macApart", inPlace := ["internal/bytealg.MakeNoZero"], unfollowed := true, recurses := true, named := ["wicketman/sha.roots"], apart := false, laid := [("wicketman/sha.roots", laid_wicketman_sha_roots)] }
def MacApartSaid : Prop := macApartRow.holds Tryd.pinned (OpenSpec.ofChange macApartSpec)

/-- ITS FALSE NEIGHBOUR: 'it returns false'. Refute it at one input. -/
def macApartWrong : ChangeSpec := { name := "macApart", fn := fun _ => fun
  | [d1, d2] => { results := [.lit (.bool false)], args := [d1, d2] }
  | _ => none }
def MacApartWrongFalsely : Prop := macApartRow.holds Tryd.pinned (OpenSpec.ofChange macApartWrong)

/-- 'wicketmanlaw03.MacCodes': WHATEVER THE INPUT: true; the input reads as it did. -/
def macCodesSpec : ChangeSpec := { name := "macCodes", fn := fun _ => fun
  | [d1, d2, d3, d4] => { results := [.lit (.bool true)], args := [d1, d2, d3, d4] }
  | _ => none }
def macCodesRow : OpenClaim := { program := "ytfmdpkilgnccfaadoor", sum := "aba9f2b1c23dddb96d1b1d72aaa21876f2eeaed86d167ba29d10e21d1169a7ef", func := "wicketman/wicketmanlaw03.MacCodes", spec := "macCodes", inPlace := ["internal/bytealg.MakeNoZero"], unfollowed := true, recurses := true, named := ["wicketman/sha.roots"], apart := false, laid := [("wicketman/sha.roots", laid_wicketman_sha_roots)] }
def MacCodesSaid : Prop := macCodesRow.holds Tryd.pinned (OpenSpec.ofChange macCodesSpec)

/-- ITS FALSE NEIGHBOUR: 'it returns false'. Refute it at one input. -/
def macCodesWrong : ChangeSpec := { name := "macCodes", fn := fun _ => fun
  | [d1, d2, d3, d4] => { results := [.lit (.bool false)], args := [d1, d2, d3, d4] }
  | _ => none }
def MacCodesWrongFalsely : Prop := macCodesRow.holds Tryd.pinned (OpenSpec.ofChange macCodesWrong)

/-- 'wicketmanlaw04.KdfHashes': WHATEVER THE INPUT: true; the input reads as it did. -/
def kdfHashesSpec : ChangeSpec := { name := "kdfHashes", fn := fun _ => fun
  | [d1, d2, d3, d4, d5] => { results := [.lit (.bool true)], args := [d1, d2, d3, d4, d5] }
  | _ => none }
def kdfHashesRow : OpenClaim := { program := "ytfmdpkilgnccfaadoor", sum := "aba9f2b1c23dddb96d1b1d72aaa21876f2eeaed86d167ba29d10e21d1169a7ef", func := "wicketman/wicketmanlaw04.KdfHashes", spec := "kdfHashes", inPlace := ["internal/bytealg.MakeNoZero"], unfollowed := true, recurses := true, named := ["wicketman/sha.roots"], apart := false, laid := [("wicketman/sha.roots", laid_wicketman_sha_roots)] }
def KdfHashesSaid : Prop := kdfHashesRow.holds Tryd.pinned (OpenSpec.ofChange kdfHashesSpec)

/-- ITS FALSE NEIGHBOUR: 'it returns false'. Refute it at one input. -/
def kdfHashesWrong : ChangeSpec := { name := "kdfHashes", fn := fun _ => fun
  | [d1, d2, d3, d4, d5] => { results := [.lit (.bool false)], args := [d1, d2, d3, d4, d5] }
  | _ => none }
def KdfHashesWrongFalsely : Prop := kdfHashesRow.holds Tryd.pinned (OpenSpec.ofChange kdfHashesWrong)

/-- 'wicketmanlaw04.KdfRounds': WHATEVER THE INPUT: true; the input reads as it did. -/
def kdfRoundsSpec : ChangeSpec := { name := "kdfRounds", fn := fun _ => fun
  | [d1, d2, d3, d4] => { results := [.lit (.bool true)], args := [d1, d2, d3, d4] }
  | _ => none }
def kdfRoundsRow : OpenClaim := { program := "ytfmdpkilgnccfaadoor", sum := "aba9f2b1c23dddb96d1b1d72aaa21876f2eeaed86d167ba29d10e21d1169a7ef", func := "wicketman/wicketmanlaw04.KdfRounds", spec := "kdfRounds", inPlace := ["internal/bytealg.MakeNoZero"], unfollowed := true, recurses := true, named := ["wicketman/sha.roots"], apart := false, laid := [("wicketman/sha.roots", laid_wicketman_sha_roots)] }
def KdfRoundsSaid : Prop := kdfRoundsRow.holds Tryd.pinned (OpenSpec.ofChange kdfRoundsSpec)

/-- ITS FALSE NEIGHBOUR: 'it returns false'. Refute it at one input. -/
def kdfRoundsWrong : ChangeSpec := { name := "kdfRounds", fn := fun _ => fun
  | [d1, d2, d3, d4] => { results := [.lit (.bool false)], args := [d1, d2, d3, d4] }
  | _ => none }
def KdfRoundsWrongFalsely : Prop := kdfRoundsRow.holds Tryd.pinned (OpenSpec.ofChange kdfRoundsWrong)

/-- 'wicketmanlaw04.KdfApart': WHATEVER THE INPUT: true; the input reads as it did. -/
def kdfApartSpec : ChangeSpec := { name := "kdfApart", fn := fun _ => fun
  | [d1, d2, d3, d4] => { results := [.lit (.bool true)], args := [d1, d2, d3, d4] }
  | _ => none }
def kdfApartRow : OpenClaim := { program := "ytfmdpkilgnccfaadoor", sum := "aba9f2b1c23dddb96d1b1d72aaa21876f2eeaed86d167ba29d10e21d1169a7ef", func := "wicketman/wicketmanlaw04.KdfApart", spec := "kdfApart", inPlace := ["internal/bytealg.MakeNoZero"], unfollowed := true, recurses := true, named := ["wicketman/sha.roots"], apart := false, laid := [("wicketman/sha.roots", laid_wicketman_sha_roots)] }
def KdfApartSaid : Prop := kdfApartRow.holds Tryd.pinned (OpenSpec.ofChange kdfApartSpec)

/-- ITS FALSE NEIGHBOUR: 'it returns false'. Refute it at one input. -/
def kdfApartWrong : ChangeSpec := { name := "kdfApart", fn := fun _ => fun
  | [d1, d2, d3, d4] => { results := [.lit (.bool false)], args := [d1, d2, d3, d4] }
  | _ => none }
def KdfApartWrongFalsely : Prop := kdfApartRow.holds Tryd.pinned (OpenSpec.ofChange kdfApartWrong)

/-- 'wicketmanlaw04.KdfSalts': WHATEVER THE INPUT: true; the input reads as it did. -/
def kdfSaltsSpec : ChangeSpec := { name := "kdfSalts", fn := fun _ => fun
  | [d1, d2, d3, d4] => { results := [.lit (.bool true)], args := [d1, d2, d3, d4] }
  | _ => none }
def kdfSaltsRow : OpenClaim := { program := "ytfmdpkilgnccfaadoor", sum := "aba9f2b1c23dddb96d1b1d72aaa21876f2eeaed86d167ba29d10e21d1169a7ef", func := "wicketman/wicketmanlaw04.KdfSalts", spec := "kdfSalts", inPlace := ["internal/bytealg.MakeNoZero"], unfollowed := true, recurses := true, named := ["wicketman/sha.roots"], apart := false, laid := [("wicketman/sha.roots", laid_wicketman_sha_roots)] }
def KdfSaltsSaid : Prop := kdfSaltsRow.holds Tryd.pinned (OpenSpec.ofChange kdfSaltsSpec)

/-- ITS FALSE NEIGHBOUR: 'it returns false'. Refute it at one input. -/
def kdfSaltsWrong : ChangeSpec := { name := "kdfSalts", fn := fun _ => fun
  | [d1, d2, d3, d4] => { results := [.lit (.bool false)], args := [d1, d2, d3, d4] }
  | _ => none }
def KdfSaltsWrongFalsely : Prop := kdfSaltsRow.holds Tryd.pinned (OpenSpec.ofChange kdfSaltsWrong)

/- THE SECOND FORM. 'bulk': how many values and letters a reading holds, each counted each time it is reached (what is shared counts as often as it is met; a slice's spare places count too). A statement '..UptoSaid' is the law's where the arguments, and the package variables that the reading takes, are together of bulk at most 1048576: NARROWER than '..Said'. Prove '..Said' where nothing that the law and all that it calls make is longer than what came in: it says more and counts as full. Else prove '..UptoSaid'. A law counts once. -/
mutual
def uptoBulk {H : Type} : DataW H → Nat
  | .lit (.string bytes) => bytes.length + 1
  | .lit _ => 1
  | .nil => 1
  | .ptr d => uptoBulk d + 1
  | .slice elems spare => uptoBulkAll elems + uptoBulkAll spare + 1
  | .agg parts => uptoBulkAll parts + 1
  | .iface _ d => uptoBulk d + 1
  | .map entries => uptoBulkEntries entries + 1
  | .held _ => 1
def uptoBulkAll {H : Type} : List (DataW H) → Nat
  | [] => 0
  | d :: r => uptoBulk d + uptoBulkAll r
def uptoBulkEntries {H : Type} : List (Lit × DataW H) → Nat
  | [] => 0
  | x :: r => uptoBulkEntry x + uptoBulkEntries r
def uptoBulkEntry {H : Type} : Lit × DataW H → Nat
  | (.string bytes, d) => bytes.length + uptoBulk d + 1
  | (_, d) => uptoBulk d + 1
 end
def uptoSmall : (H : Type) → List (DataW H) → Bool := fun _ ds => decide (uptoBulkAll ds ≤ 1048576)
def OpenSpec.upto (s : _root_.Go.ChangeSpec) : _root_.Go.OpenSpec := { _root_.Go.OpenSpec.ofChange s with cond := some uptoSmall }

/-- 'wicketmanlaw02.ShaSums', WHERE WHAT IT READS IS OF BULK AT MOST 1048576: true; the input reads as it did. -/
def shaSumsUptoRow : OpenClaim := { program := "ytfmdpkilgnccfaadoor", sum := "aba9f2b1c23dddb96d1b1d72aaa21876f2eeaed86d167ba29d10e21d1169a7ef", func := "wicketman/wicketmanlaw02.ShaSums", spec := "shaSums", unfollowed := true, recurses := true, named := ["wicketman/sha.roots"], apart := false, laid := [("wicketman/sha.roots", laid_wicketman_sha_roots)], narrowed := true }
def ShaSumsUptoSaid : Prop := shaSumsUptoRow.holds Tryd.pinned (OpenSpec.upto shaSumsSpec)

/-- 'wicketmanlaw02.ShaPieces', WHERE WHAT IT READS IS OF BULK AT MOST 1048576: true; the input reads as it did. -/
def shaPiecesUptoRow : OpenClaim := { program := "ytfmdpkilgnccfaadoor", sum := "aba9f2b1c23dddb96d1b1d72aaa21876f2eeaed86d167ba29d10e21d1169a7ef", func := "wicketman/wicketmanlaw02.ShaPieces", spec := "shaPieces", unfollowed := true, recurses := true, named := ["wicketman/sha.roots"], apart := false, laid := [("wicketman/sha.roots", laid_wicketman_sha_roots)], narrowed := true }
def ShaPiecesUptoSaid : Prop := shaPiecesUptoRow.holds Tryd.pinned (OpenSpec.upto shaPiecesSpec)

/-- 'wicketmanlaw02.ShaPads', WHERE WHAT IT READS IS OF BULK AT MOST 1048576: true; the input reads as it did. -/
def shaPadsUptoRow : OpenClaim := { program := "ytfmdpkilgnccfaadoor", sum := "aba9f2b1c23dddb96d1b1d72aaa21876f2eeaed86d167ba29d10e21d1169a7ef", func := "wicketman/wicketmanlaw02.ShaPads", spec := "shaPads", unfollowed := true, recurses := true, named := ["wicketman/sha.roots"], apart := false, laid := [("wicketman/sha.roots", laid_wicketman_sha_roots)], narrowed := true }
def ShaPadsUptoSaid : Prop := shaPadsUptoRow.holds Tryd.pinned (OpenSpec.upto shaPadsSpec)

/-- 'wicketmanlaw02.ShaChain', WHERE WHAT IT READS IS OF BULK AT MOST 1048576: true; the input reads as it did. -/
def shaChainUptoRow : OpenClaim := { program := "ytfmdpkilgnccfaadoor", sum := "aba9f2b1c23dddb96d1b1d72aaa21876f2eeaed86d167ba29d10e21d1169a7ef", func := "wicketman/wicketmanlaw02.ShaChain", spec := "shaChain", unfollowed := true, recurses := true, named := ["wicketman/sha.roots"], apart := false, laid := [("wicketman/sha.roots", laid_wicketman_sha_roots)], narrowed := true }
def ShaChainUptoSaid : Prop := shaChainUptoRow.holds Tryd.pinned (OpenSpec.upto shaChainSpec)

/-- 'wicketmanlaw02.ShaWrong', WHERE WHAT IT READS IS OF BULK AT MOST 1048576: true; the input reads as it did. -/
def shaWrongUptoRow : OpenClaim := { program := "ytfmdpkilgnccfaadoor", sum := "aba9f2b1c23dddb96d1b1d72aaa21876f2eeaed86d167ba29d10e21d1169a7ef", func := "wicketman/wicketmanlaw02.ShaWrong", spec := "shaWrong", unfollowed := true, recurses := true, named := ["wicketman/sha.roots"], apart := false, laid := [("wicketman/sha.roots", laid_wicketman_sha_roots)], narrowed := true }
def ShaWrongUptoSaid : Prop := shaWrongUptoRow.holds Tryd.pinned (OpenSpec.upto shaWrongSpec)

/-- 'wicketmanlaw02.ShaEmpty', WHERE WHAT IT READS IS OF BULK AT MOST 1048576: true; the input reads as it did. -/
def shaEmptyUptoRow : OpenClaim := { program := "ytfmdpkilgnccfaadoor", sum := "aba9f2b1c23dddb96d1b1d72aaa21876f2eeaed86d167ba29d10e21d1169a7ef", func := "wicketman/wicketmanlaw02.ShaEmpty", spec := "shaEmpty", unfollowed := true, recurses := true, named := ["wicketman/sha.roots"], apart := false, laid := [("wicketman/sha.roots", laid_wicketman_sha_roots)], narrowed := true }
def ShaEmptyUptoSaid : Prop := shaEmptyUptoRow.holds Tryd.pinned (OpenSpec.upto shaEmptySpec)

/-- 'wicketmanlaw03.MacIdeal', WHERE WHAT IT READS IS OF BULK AT MOST 1048576: true; the input reads as it did. -/
def macIdealUptoRow : OpenClaim := { program := "ytfmdpkilgnccfaadoor", sum := "aba9f2b1c23dddb96d1b1d72aaa21876f2eeaed86d167ba29d10e21d1169a7ef", func := "wicketman/wicketmanlaw03.MacIdeal", spec := "macIdeal", inPlace := ["internal/bytealg.MakeNoZero"], unfollowed := true, recurses := true, named := ["wicketman/sha.roots"], apart := false, laid := [("wicketman/sha.roots", laid_wicketman_sha_roots)], narrowed := true }
def MacIdealUptoSaid : Prop := macIdealUptoRow.holds Tryd.pinned (OpenSpec.upto macIdealSpec)

/-- 'wicketmanlaw03.MacKeys', WHERE WHAT IT READS IS OF BULK AT MOST 1048576: true; the input reads as it did. -/
def macKeysUptoRow : OpenClaim := { program := "ytfmdpkilgnccfaadoor", sum := "aba9f2b1c23dddb96d1b1d72aaa21876f2eeaed86d167ba29d10e21d1169a7ef", func := "wicketman/wicketmanlaw03.MacKeys", spec := "macKeys", inPlace := ["internal/bytealg.MakeNoZero"], unfollowed := true, recurses := true, named := ["wicketman/sha.roots"], apart := false, laid := [("wicketman/sha.roots", laid_wicketman_sha_roots)], narrowed := true }
def MacKeysUptoSaid : Prop := macKeysUptoRow.holds Tryd.pinned (OpenSpec.upto macKeysSpec)

/-- 'wicketmanlaw03.MacOrder', WHERE WHAT IT READS IS OF BULK AT MOST 1048576: true; the input reads as it did. -/
def macOrderUptoRow : OpenClaim := { program := "ytfmdpkilgnccfaadoor", sum := "aba9f2b1c23dddb96d1b1d72aaa21876f2eeaed86d167ba29d10e21d1169a7ef", func := "wicketman/wicketmanlaw03.MacOrder", spec := "macOrder", inPlace := ["internal/bytealg.MakeNoZero"], unfollowed := true, recurses := true, named := ["wicketman/sha.roots"], apart := false, laid := [("wicketman/sha.roots", laid_wicketman_sha_roots)], narrowed := true }
def MacOrderUptoSaid : Prop := macOrderUptoRow.holds Tryd.pinned (OpenSpec.upto macOrderSpec)

/-- 'wicketmanlaw04.KdfMore', WHERE WHAT IT READS IS OF BULK AT MOST 1048576: true; the input reads as it did. -/
def kdfMoreUptoRow : OpenClaim := { program := "ytfmdpkilgnccfaadoor", sum := "aba9f2b1c23dddb96d1b1d72aaa21876f2eeaed86d167ba29d10e21d1169a7ef", func := "wicketman/wicketmanlaw04.KdfMore", spec := "kdfMore", inPlace := ["internal/bytealg.MakeNoZero"], unfollowed := true, recurses := true, named := ["wicketman/sha.roots"], apart := false, laid := [("wicketman/sha.roots", laid_wicketman_sha_roots)], narrowed := true }
def KdfMoreUptoSaid : Prop := kdfMoreUptoRow.holds Tryd.pinned (OpenSpec.upto kdfMoreSpec)

/-- 'wicketmanlaw03.MacSteps', WHERE WHAT IT READS IS OF BULK AT MOST 1048576: true; the input reads as it did. -/
def macStepsUptoRow : OpenClaim := { program := "ytfmdpkilgnccfaadoor", sum := "aba9f2b1c23dddb96d1b1d72aaa21876f2eeaed86d167ba29d10e21d1169a7ef", func := "wicketman/wicketmanlaw03.MacSteps", spec := "macSteps", inPlace := ["internal/bytealg.MakeNoZero"], unfollowed := true, recurses := true, named := ["wicketman/sha.roots"], apart := false, laid := [("wicketman/sha.roots", laid_wicketman_sha_roots)], narrowed := true }
def MacStepsUptoSaid : Prop := macStepsUptoRow.holds Tryd.pinned (OpenSpec.upto macStepsSpec)

/-- 'wicketmanlaw03.MacProves', WHERE WHAT IT READS IS OF BULK AT MOST 1048576: true; the input reads as it did. -/
def macProvesUptoRow : OpenClaim := { program := "ytfmdpkilgnccfaadoor", sum := "aba9f2b1c23dddb96d1b1d72aaa21876f2eeaed86d167ba29d10e21d1169a7ef", func := "wicketman/wicketmanlaw03.MacProves", spec := "macProves", inPlace := ["internal/bytealg.MakeNoZero"], unfollowed := true, recurses := true, named := ["wicketman/sha.roots"], apart := false, laid := [("wicketman/sha.roots", laid_wicketman_sha_roots)], narrowed := true }
def MacProvesUptoSaid : Prop := macProvesUptoRow.holds Tryd.pinned (OpenSpec.upto macProvesSpec)

/-- 'wicketmanlaw03.MacApart', WHERE WHAT IT READS IS OF BULK AT MOST 1048576: true; the input reads as it did. -/
def macApartUptoRow : OpenClaim := { program := "ytfmdpkilgnccfaadoor", sum := "aba9f2b1c23dddb96d1b1d72aaa21876f2eeaed86d167ba29d10e21d1169a7ef", func := "wicketman/wicketmanlaw03.MacApart", spec := "macApart", inPlace := ["internal/bytealg.MakeNoZero"], unfollowed := true, recurses := true, named := ["wicketman/sha.roots"], apart := false, laid := [("wicketman/sha.roots", laid_wicketman_sha_roots)], narrowed := true }
def MacApartUptoSaid : Prop := macApartUptoRow.holds Tryd.pinned (OpenSpec.upto macApartSpec)

/-- 'wicketmanlaw03.MacCodes', WHERE WHAT IT READS IS OF BULK AT MOST 1048576: true; the input reads as it did. -/
def macCodesUptoRow : OpenClaim := { program := "ytfmdpkilgnccfaadoor", sum := "aba9f2b1c23dddb96d1b1d72aaa21876f2eeaed86d167ba29d10e21d1169a7ef", func := "wicketman/wicketmanlaw03.MacCodes", spec := "macCodes", inPlace := ["internal/bytealg.MakeNoZero"], unfollowed := true, recurses := true, named := ["wicketman/sha.roots"], apart := false, laid := [("wicketman/sha.roots", laid_wicketman_sha_roots)], narrowed := true }
def MacCodesUptoSaid : Prop := macCodesUptoRow.holds Tryd.pinned (OpenSpec.upto macCodesSpec)

/-- 'wicketmanlaw04.KdfHashes', WHERE WHAT IT READS IS OF BULK AT MOST 1048576: true; the input reads as it did. -/
def kdfHashesUptoRow : OpenClaim := { program := "ytfmdpkilgnccfaadoor", sum := "aba9f2b1c23dddb96d1b1d72aaa21876f2eeaed86d167ba29d10e21d1169a7ef", func := "wicketman/wicketmanlaw04.KdfHashes", spec := "kdfHashes", inPlace := ["internal/bytealg.MakeNoZero"], unfollowed := true, recurses := true, named := ["wicketman/sha.roots"], apart := false, laid := [("wicketman/sha.roots", laid_wicketman_sha_roots)], narrowed := true }
def KdfHashesUptoSaid : Prop := kdfHashesUptoRow.holds Tryd.pinned (OpenSpec.upto kdfHashesSpec)

/-- 'wicketmanlaw04.KdfRounds', WHERE WHAT IT READS IS OF BULK AT MOST 1048576: true; the input reads as it did. -/
def kdfRoundsUptoRow : OpenClaim := { program := "ytfmdpkilgnccfaadoor", sum := "aba9f2b1c23dddb96d1b1d72aaa21876f2eeaed86d167ba29d10e21d1169a7ef", func := "wicketman/wicketmanlaw04.KdfRounds", spec := "kdfRounds", inPlace := ["internal/bytealg.MakeNoZero"], unfollowed := true, recurses := true, named := ["wicketman/sha.roots"], apart := false, laid := [("wicketman/sha.roots", laid_wicketman_sha_roots)], narrowed := true }
def KdfRoundsUptoSaid : Prop := kdfRoundsUptoRow.holds Tryd.pinned (OpenSpec.upto kdfRoundsSpec)

/-- 'wicketmanlaw04.KdfApart', WHERE WHAT IT READS IS OF BULK AT MOST 1048576: true; the input reads as it did. -/
def kdfApartUptoRow : OpenClaim := { program := "ytfmdpkilgnccfaadoor", sum := "aba9f2b1c23dddb96d1b1d72aaa21876f2eeaed86d167ba29d10e21d1169a7ef", func := "wicketman/wicketmanlaw04.KdfApart", spec := "kdfApart", inPlace := ["internal/bytealg.MakeNoZero"], unfollowed := true, recurses := true, named := ["wicketman/sha.roots"], apart := false, laid := [("wicketman/sha.roots", laid_wicketman_sha_roots)], narrowed := true }
def KdfApartUptoSaid : Prop := kdfApartUptoRow.holds Tryd.pinned (OpenSpec.upto kdfApartSpec)

/-- 'wicketmanlaw04.KdfSalts', WHERE WHAT IT READS IS OF BULK AT MOST 1048576: true; the input reads as it did. -/
def kdfSaltsUptoRow : OpenClaim := { program := "ytfmdpkilgnccfaadoor", sum := "aba9f2b1c23dddb96d1b1d72aaa21876f2eeaed86d167ba29d10e21d1169a7ef", func := "wicketman/wicketmanlaw04.KdfSalts", spec := "kdfSalts", inPlace := ["internal/bytealg.MakeNoZero"], unfollowed := true, recurses := true, named := ["wicketman/sha.roots"], apart := false, laid := [("wicketman/sha.roots", laid_wicketman_sha_roots)], narrowed := true }
def KdfSaltsUptoSaid : Prop := kdfSaltsUptoRow.holds Tryd.pinned (OpenSpec.upto kdfSaltsSpec)

end Rows
end Go.Proofs.YtfmdpkilgnccfaaDoor
