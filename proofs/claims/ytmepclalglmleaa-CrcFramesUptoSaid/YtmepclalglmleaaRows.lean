/-
  No cell of these rows narrows 'for every input' (looked for: loops, veiled, ifaces, maps, wideKeys, modest, calm, conditions, laid).
  DERIVED. THE GIVEN ROWS OF THIS SEAT. 12 by the template 'for every input the law returns true; each argument reads behind the call as it read before'; 0 by the template 'total and deterministic' (their statements: YtmepclalglmleaaTotals.lean).
  GIVEN WITH THE SEED: the statements are not yours to turn. If you find one false, say at which input.
  Laid BY PROGRAM, IN A SANDBOX (cutbox-rows.mjs): the forced cells as the released guide's own fill.sh prints them over the translation a14375531bb40b46… (all of the seat's roots in one cut). By AI agents, Wed Nov 11 2026. No macro, syntax, notation, axiom, sorry.
-/
import Derived.Test.YtmepclalglmleaaChecked
import GoSem.Claim
import GoSem.ClaimJoined
import GoSem.ClaimMapViews
import Derived.JoinedTies
import Derived.KernelRfl
namespace Go.Proofs.Ytmepclalglmleaa
/- THE CELL 'sum', in the pinned program and in every row, IS THE sha256 OF THE DUMP (.gsa) THAT YtmepclalglmleaaProg.lean LOADS. Nothing in Lean hashes anything: it is a label: what it is worth is what the hold of that sum in a sandbox is worth. -/
noncomputable def Try.pinned : Pinned := { name := "ytmepclalglmleaa", sum := "a14375531bb40b46c7436bf6e023d7662c32a2130870de28d1023c6e8edddd48", checked := Try.checked }
namespace Rows
def none {H : Type} : Left H := { results := [], args := [] }

/-- 'wicketmanlaw05.HexaBack': WHATEVER THE INPUT: true; the input reads as it did. -/
def hexaBackSpec : ChangeSpec := { name := "hexaBack", fn := fun _ => fun
  | [d1, d2] => { results := [.lit (.bool true)], args := [d1, d2] }
  | _ => none }
def hexaBackRow : OpenClaim := { program := "ytmepclalglmleaa", sum := "a14375531bb40b46c7436bf6e023d7662c32a2130870de28d1023c6e8edddd48", func := "wicketman/wicketmanlaw05.HexaBack", spec := "hexaBack", inPlace := ["internal/abi.NoEscape"], apart := false }
def HexaBackSaid : Prop := hexaBackRow.holds Try.pinned (OpenSpec.ofChange hexaBackSpec)

/-- ITS FALSE NEIGHBOUR: 'it returns false'. Refute it at one input. -/
def hexaBackWrong : ChangeSpec := { name := "hexaBack", fn := fun _ => fun
  | [d1, d2] => { results := [.lit (.bool false)], args := [d1, d2] }
  | _ => none }
def HexaBackWrongFalsely : Prop := hexaBackRow.holds Try.pinned (OpenSpec.ofChange hexaBackWrong)

/-- 'wicketmanlaw05.HexaJoin': WHATEVER THE INPUT: true; the input reads as it did. -/
def hexaJoinSpec : ChangeSpec := { name := "hexaJoin", fn := fun _ => fun
  | [d1, d2] => { results := [.lit (.bool true)], args := [d1, d2] }
  | _ => none }
def hexaJoinRow : OpenClaim := { program := "ytmepclalglmleaa", sum := "a14375531bb40b46c7436bf6e023d7662c32a2130870de28d1023c6e8edddd48", func := "wicketman/wicketmanlaw05.HexaJoin", spec := "hexaJoin", inPlace := ["internal/abi.NoEscape"], apart := false }
def HexaJoinSaid : Prop := hexaJoinRow.holds Try.pinned (OpenSpec.ofChange hexaJoinSpec)

/-- ITS FALSE NEIGHBOUR: 'it returns false'. Refute it at one input. -/
def hexaJoinWrong : ChangeSpec := { name := "hexaJoin", fn := fun _ => fun
  | [d1, d2] => { results := [.lit (.bool false)], args := [d1, d2] }
  | _ => none }
def HexaJoinWrongFalsely : Prop := hexaJoinRow.holds Try.pinned (OpenSpec.ofChange hexaJoinWrong)

/-- 'wicketmanlaw05.HexaOdd': WHATEVER THE INPUT: true; the input reads as it did. -/
def hexaOddSpec : ChangeSpec := { name := "hexaOdd", fn := fun _ => fun
  | [d1, d2, d3] => { results := [.lit (.bool true)], args := [d1, d2, d3] }
  | _ => none }
def hexaOddRow : OpenClaim := { program := "ytmepclalglmleaa", sum := "a14375531bb40b46c7436bf6e023d7662c32a2130870de28d1023c6e8edddd48", func := "wicketman/wicketmanlaw05.HexaOdd", spec := "hexaOdd", inPlace := ["internal/abi.NoEscape"], apart := false }
def HexaOddSaid : Prop := hexaOddRow.holds Try.pinned (OpenSpec.ofChange hexaOddSpec)

/-- ITS FALSE NEIGHBOUR: 'it returns false'. Refute it at one input. -/
def hexaOddWrong : ChangeSpec := { name := "hexaOdd", fn := fun _ => fun
  | [d1, d2, d3] => { results := [.lit (.bool false)], args := [d1, d2, d3] }
  | _ => none }
def HexaOddWrongFalsely : Prop := hexaOddRow.holds Try.pinned (OpenSpec.ofChange hexaOddWrong)

/-- 'wicketmanlaw05.HexaRises': WHATEVER THE INPUT: true; the input reads as it did. -/
def hexaRisesSpec : ChangeSpec := { name := "hexaRises", fn := fun _ => fun
  | [d1, d2] => { results := [.lit (.bool true)], args := [d1, d2] }
  | _ => none }
def hexaRisesRow : OpenClaim := { program := "ytmepclalglmleaa", sum := "a14375531bb40b46c7436bf6e023d7662c32a2130870de28d1023c6e8edddd48", func := "wicketman/wicketmanlaw05.HexaRises", spec := "hexaRises", inPlace := ["internal/abi.NoEscape"], apart := false }
def HexaRisesSaid : Prop := hexaRisesRow.holds Try.pinned (OpenSpec.ofChange hexaRisesSpec)

/-- ITS FALSE NEIGHBOUR: 'it returns false'. Refute it at one input. -/
def hexaRisesWrong : ChangeSpec := { name := "hexaRises", fn := fun _ => fun
  | [d1, d2] => { results := [.lit (.bool false)], args := [d1, d2] }
  | _ => none }
def HexaRisesWrongFalsely : Prop := hexaRisesRow.holds Try.pinned (OpenSpec.ofChange hexaRisesWrong)

/-- 'wicketmanlaw05.HexaTexts': WHATEVER THE INPUT: true; the input reads as it did. -/
def hexaTextsSpec : ChangeSpec := { name := "hexaTexts", fn := fun _ => fun
  | [d1, d2, d3, d4] => { results := [.lit (.bool true)], args := [d1, d2, d3, d4] }
  | _ => none }
def hexaTextsRow : OpenClaim := { program := "ytmepclalglmleaa", sum := "a14375531bb40b46c7436bf6e023d7662c32a2130870de28d1023c6e8edddd48", func := "wicketman/wicketmanlaw05.HexaTexts", spec := "hexaTexts", inPlace := ["internal/abi.NoEscape"], apart := false }
def HexaTextsSaid : Prop := hexaTextsRow.holds Try.pinned (OpenSpec.ofChange hexaTextsSpec)

/-- ITS FALSE NEIGHBOUR: 'it returns false'. Refute it at one input. -/
def hexaTextsWrong : ChangeSpec := { name := "hexaTexts", fn := fun _ => fun
  | [d1, d2, d3, d4] => { results := [.lit (.bool false)], args := [d1, d2, d3, d4] }
  | _ => none }
def HexaTextsWrongFalsely : Prop := hexaTextsRow.holds Try.pinned (OpenSpec.ofChange hexaTextsWrong)

/-- 'wicketmanlaw05.HexaIDs': WHATEVER THE INPUT: true; the input reads as it did. -/
def hexaIDsSpec : ChangeSpec := { name := "hexaIDs", fn := fun _ => fun
  | [d1, d2, d3] => { results := [.lit (.bool true)], args := [d1, d2, d3] }
  | _ => none }
def hexaIDsRow : OpenClaim := { program := "ytmepclalglmleaa", sum := "a14375531bb40b46c7436bf6e023d7662c32a2130870de28d1023c6e8edddd48", func := "wicketman/wicketmanlaw05.HexaIDs", spec := "hexaIDs", inPlace := ["internal/abi.NoEscape"], apart := false }
def HexaIDsSaid : Prop := hexaIDsRow.holds Try.pinned (OpenSpec.ofChange hexaIDsSpec)

/-- ITS FALSE NEIGHBOUR: 'it returns false'. Refute it at one input. -/
def hexaIDsWrong : ChangeSpec := { name := "hexaIDs", fn := fun _ => fun
  | [d1, d2, d3] => { results := [.lit (.bool false)], args := [d1, d2, d3] }
  | _ => none }
def HexaIDsWrongFalsely : Prop := hexaIDsRow.holds Try.pinned (OpenSpec.ofChange hexaIDsWrong)

/-- 'wicketmanlaw13.CrcCut': WHATEVER THE INPUT: true; the input reads as it did. -/
def crcCutSpec : ChangeSpec := { name := "crcCut", fn := fun _ => fun
  | [d1, d2, d3, d4] => { results := [.lit (.bool true)], args := [d1, d2, d3, d4] }
  | _ => none }
def crcCutRow : OpenClaim := { program := "ytmepclalglmleaa", sum := "a14375531bb40b46c7436bf6e023d7662c32a2130870de28d1023c6e8edddd48", func := "wicketman/wicketmanlaw13.CrcCut", spec := "crcCut", unfollowed := true, recurses := true, apart := false }
def CrcCutSaid : Prop := crcCutRow.holds Try.pinned (OpenSpec.ofChange crcCutSpec)

/-- ITS FALSE NEIGHBOUR: 'it returns false'. Refute it at one input. -/
def crcCutWrong : ChangeSpec := { name := "crcCut", fn := fun _ => fun
  | [d1, d2, d3, d4] => { results := [.lit (.bool false)], args := [d1, d2, d3, d4] }
  | _ => none }
def CrcCutWrongFalsely : Prop := crcCutRow.holds Try.pinned (OpenSpec.ofChange crcCutWrong)

/-- 'wicketmanlaw13.CrcBurst': WHATEVER THE INPUT: true; the input reads as it did. -/
def crcBurstSpec : ChangeSpec := { name := "crcBurst", fn := fun _ => fun
  | [d1, d2, d3] => { results := [.lit (.bool true)], args := [d1, d2, d3] }
  | _ => none }
def crcBurstRow : OpenClaim := { program := "ytmepclalglmleaa", sum := "a14375531bb40b46c7436bf6e023d7662c32a2130870de28d1023c6e8edddd48", func := "wicketman/wicketmanlaw13.CrcBurst", spec := "crcBurst", unfollowed := true, recurses := true, apart := false }
def CrcBurstSaid : Prop := crcBurstRow.holds Try.pinned (OpenSpec.ofChange crcBurstSpec)

/-- ITS FALSE NEIGHBOUR: 'it returns false'. Refute it at one input. -/
def crcBurstWrong : ChangeSpec := { name := "crcBurst", fn := fun _ => fun
  | [d1, d2, d3] => { results := [.lit (.bool false)], args := [d1, d2, d3] }
  | _ => none }
def CrcBurstWrongFalsely : Prop := crcBurstRow.holds Try.pinned (OpenSpec.ofChange crcBurstWrong)

/-- 'wicketmanlaw13.CrcLong': WHATEVER THE INPUT: true; the input reads as it did. -/
def crcLongSpec : ChangeSpec := { name := "crcLong", fn := fun _ => fun
  | [d1, d2] => { results := [.lit (.bool true)], args := [d1, d2] }
  | _ => none }
def crcLongRow : OpenClaim := { program := "ytmepclalglmleaa", sum := "a14375531bb40b46c7436bf6e023d7662c32a2130870de28d1023c6e8edddd48", func := "wicketman/wicketmanlaw13.CrcLong", spec := "crcLong", unfollowed := true, recurses := true, apart := false }
def CrcLongSaid : Prop := crcLongRow.holds Try.pinned (OpenSpec.ofChange crcLongSpec)

/-- ITS FALSE NEIGHBOUR: 'it returns false'. Refute it at one input. -/
def crcLongWrong : ChangeSpec := { name := "crcLong", fn := fun _ => fun
  | [d1, d2] => { results := [.lit (.bool false)], args := [d1, d2] }
  | _ => none }
def CrcLongWrongFalsely : Prop := crcLongRow.holds Try.pinned (OpenSpec.ofChange crcLongWrong)

/-- 'wicketmanlaw13.CrcFrames': WHATEVER THE INPUT: true; the input reads as it did. -/
def crcFramesSpec : ChangeSpec := { name := "crcFrames", fn := fun _ => fun
  | [d1, d2, d3, d4, d5, d6] => { results := [.lit (.bool true)], args := [d1, d2, d3, d4, d5, d6] }
  | _ => none }
def crcFramesRow : OpenClaim := { program := "ytmepclalglmleaa", sum := "a14375531bb40b46c7436bf6e023d7662c32a2130870de28d1023c6e8edddd48", func := "wicketman/wicketmanlaw13.CrcFrames", spec := "crcFrames", unfollowed := true, recurses := true, apart := false }
def CrcFramesSaid : Prop := crcFramesRow.holds Try.pinned (OpenSpec.ofChange crcFramesSpec)

/-- ITS FALSE NEIGHBOUR: 'it returns false'. Refute it at one input. -/
def crcFramesWrong : ChangeSpec := { name := "crcFrames", fn := fun _ => fun
  | [d1, d2, d3, d4, d5, d6] => { results := [.lit (.bool false)], args := [d1, d2, d3, d4, d5, d6] }
  | _ => none }
def CrcFramesWrongFalsely : Prop := crcFramesRow.holds Try.pinned (OpenSpec.ofChange crcFramesWrong)

/-- 'wicketmanlaw13.CrcBack': WHATEVER THE INPUT: true; the input reads as it did. -/
def crcBackSpec : ChangeSpec := { name := "crcBack", fn := fun _ => fun
  | [d1, d2, d3, d4] => { results := [.lit (.bool true)], args := [d1, d2, d3, d4] }
  | _ => none }
def crcBackRow : OpenClaim := { program := "ytmepclalglmleaa", sum := "a14375531bb40b46c7436bf6e023d7662c32a2130870de28d1023c6e8edddd48", func := "wicketman/wicketmanlaw13.CrcBack", spec := "crcBack", unfollowed := true, recurses := true, apart := false }
def CrcBackSaid : Prop := crcBackRow.holds Try.pinned (OpenSpec.ofChange crcBackSpec)

/-- ITS FALSE NEIGHBOUR: 'it returns false'. Refute it at one input. -/
def crcBackWrong : ChangeSpec := { name := "crcBack", fn := fun _ => fun
  | [d1, d2, d3, d4] => { results := [.lit (.bool false)], args := [d1, d2, d3, d4] }
  | _ => none }
def CrcBackWrongFalsely : Prop := crcBackRow.holds Try.pinned (OpenSpec.ofChange crcBackWrong)

/-- 'wicketmanlaw13.CrcSeqs': WHATEVER THE INPUT: true; the input reads as it did. -/
def crcSeqsSpec : ChangeSpec := { name := "crcSeqs", fn := fun _ => fun
  | [d1, d2, d3] => { results := [.lit (.bool true)], args := [d1, d2, d3] }
  | _ => none }
def crcSeqsRow : OpenClaim := { program := "ytmepclalglmleaa", sum := "a14375531bb40b46c7436bf6e023d7662c32a2130870de28d1023c6e8edddd48", func := "wicketman/wicketmanlaw13.CrcSeqs", spec := "crcSeqs", unfollowed := true, recurses := true, apart := false }
def CrcSeqsSaid : Prop := crcSeqsRow.holds Try.pinned (OpenSpec.ofChange crcSeqsSpec)

/-- ITS FALSE NEIGHBOUR: 'it returns false'. Refute it at one input. -/
def crcSeqsWrong : ChangeSpec := { name := "crcSeqs", fn := fun _ => fun
  | [d1, d2, d3] => { results := [.lit (.bool false)], args := [d1, d2, d3] }
  | _ => none }
def CrcSeqsWrongFalsely : Prop := crcSeqsRow.holds Try.pinned (OpenSpec.ofChange crcSeqsWrong)

/- THE SECOND FORM. 'bulk': how many values and letters a reading holds, each counted each time it is reached (what is shared counts as often as it is met; a slice's spare places count too). A statement '..UptoSaid' is the law's where the arguments, and the package variables that the reading takes, are together of bulk at most 1048576: NARROWER than '..Said'. Prove '..Said' where nothing that the law and all that it calls make is longer than what came in: it says more and counts as full. Else prove '..UptoSaid'. A law counts once. -/
mutual
def uptoBulk {H : Type} : DataW H → Nat
  | .lit (.string bytes) => bytes.length + 1
  | .lit _ => 1
  | .nil => 1
  | .ptr d => uptoBulk d + 1
  | .slice elems spare => uptoBulkAll elems + uptoBulkAll spare + 1
  | .agg parts => uptoBulkAll parts + 1
  | .iface _ d => uptoBulk d + 1
  | .map entries => uptoBulkEntries entries + 1
  | .held _ => 1
def uptoBulkAll {H : Type} : List (DataW H) → Nat
  | [] => 0
  | d :: r => uptoBulk d + uptoBulkAll r
def uptoBulkEntries {H : Type} : List (Lit × DataW H) → Nat
  | [] => 0
  | x :: r => uptoBulkEntry x + uptoBulkEntries r
def uptoBulkEntry {H : Type} : Lit × DataW H → Nat
  | (.string bytes, d) => bytes.length + uptoBulk d + 1
  | (_, d) => uptoBulk d + 1
 end
def uptoSmall : (H : Type) → List (DataW H) → Bool := fun _ ds => decide (uptoBulkAll ds ≤ 1048576)
def OpenSpec.upto (s : _root_.Go.ChangeSpec) : _root_.Go.OpenSpec := { _root_.Go.OpenSpec.ofChange s with cond := some uptoSmall }

/-- 'wicketmanlaw05.HexaBack', WHERE WHAT IT READS IS OF BULK AT MOST 1048576: true; the input reads as it did. -/
def hexaBackUptoRow : OpenClaim := { program := "ytmepclalglmleaa", sum := "a14375531bb40b46c7436bf6e023d7662c32a2130870de28d1023c6e8edddd48", func := "wicketman/wicketmanlaw05.HexaBack", spec := "hexaBack", inPlace := ["internal/abi.NoEscape"], apart := false, narrowed := true }
def HexaBackUptoSaid : Prop := hexaBackUptoRow.holds Try.pinned (OpenSpec.upto hexaBackSpec)

/-- 'wicketmanlaw05.HexaJoin', WHERE WHAT IT READS IS OF BULK AT MOST 1048576: true; the input reads as it did. -/
def hexaJoinUptoRow : OpenClaim := { program := "ytmepclalglmleaa", sum := "a14375531bb40b46c7436bf6e023d7662c32a2130870de28d1023c6e8edddd48", func := "wicketman/wicketmanlaw05.HexaJoin", spec := "hexaJoin", inPlace := ["internal/abi.NoEscape"], apart := false, narrowed := true }
def HexaJoinUptoSaid : Prop := hexaJoinUptoRow.holds Try.pinned (OpenSpec.upto hexaJoinSpec)

/-- 'wicketmanlaw05.HexaOdd', WHERE WHAT IT READS IS OF BULK AT MOST 1048576: true; the input reads as it did. -/
def hexaOddUptoRow : OpenClaim := { program := "ytmepclalglmleaa", sum := "a14375531bb40b46c7436bf6e023d7662c32a2130870de28d1023c6e8edddd48", func := "wicketman/wicketmanlaw05.HexaOdd", spec := "hexaOdd", inPlace := ["internal/abi.NoEscape"], apart := false, narrowed := true }
def HexaOddUptoSaid : Prop := hexaOddUptoRow.holds Try.pinned (OpenSpec.upto hexaOddSpec)

/-- 'wicketmanlaw05.HexaRises', WHERE WHAT IT READS IS OF BULK AT MOST 1048576: true; the input reads as it did. -/
def hexaRisesUptoRow : OpenClaim := { program := "ytmepclalglmleaa", sum := "a14375531bb40b46c7436bf6e023d7662c32a2130870de28d1023c6e8edddd48", func := "wicketman/wicketmanlaw05.HexaRises", spec := "hexaRises", inPlace := ["internal/abi.NoEscape"], apart := false, narrowed := true }
def HexaRisesUptoSaid : Prop := hexaRisesUptoRow.holds Try.pinned (OpenSpec.upto hexaRisesSpec)

/-- 'wicketmanlaw05.HexaTexts', WHERE WHAT IT READS IS OF BULK AT MOST 1048576: true; the input reads as it did. -/
def hexaTextsUptoRow : OpenClaim := { program := "ytmepclalglmleaa", sum := "a14375531bb40b46c7436bf6e023d7662c32a2130870de28d1023c6e8edddd48", func := "wicketman/wicketmanlaw05.HexaTexts", spec := "hexaTexts", inPlace := ["internal/abi.NoEscape"], apart := false, narrowed := true }
def HexaTextsUptoSaid : Prop := hexaTextsUptoRow.holds Try.pinned (OpenSpec.upto hexaTextsSpec)

/-- 'wicketmanlaw05.HexaIDs', WHERE WHAT IT READS IS OF BULK AT MOST 1048576: true; the input reads as it did. -/
def hexaIDsUptoRow : OpenClaim := { program := "ytmepclalglmleaa", sum := "a14375531bb40b46c7436bf6e023d7662c32a2130870de28d1023c6e8edddd48", func := "wicketman/wicketmanlaw05.HexaIDs", spec := "hexaIDs", inPlace := ["internal/abi.NoEscape"], apart := false, narrowed := true }
def HexaIDsUptoSaid : Prop := hexaIDsUptoRow.holds Try.pinned (OpenSpec.upto hexaIDsSpec)

/-- 'wicketmanlaw13.CrcCut', WHERE WHAT IT READS IS OF BULK AT MOST 1048576: true; the input reads as it did. -/
def crcCutUptoRow : OpenClaim := { program := "ytmepclalglmleaa", sum := "a14375531bb40b46c7436bf6e023d7662c32a2130870de28d1023c6e8edddd48", func := "wicketman/wicketmanlaw13.CrcCut", spec := "crcCut", unfollowed := true, recurses := true, apart := false, narrowed := true }
def CrcCutUptoSaid : Prop := crcCutUptoRow.holds Try.pinned (OpenSpec.upto crcCutSpec)

/-- 'wicketmanlaw13.CrcBurst', WHERE WHAT IT READS IS OF BULK AT MOST 1048576: true; the input reads as it did. -/
def crcBurstUptoRow : OpenClaim := { program := "ytmepclalglmleaa", sum := "a14375531bb40b46c7436bf6e023d7662c32a2130870de28d1023c6e8edddd48", func := "wicketman/wicketmanlaw13.CrcBurst", spec := "crcBurst", unfollowed := true, recurses := true, apart := false, narrowed := true }
def CrcBurstUptoSaid : Prop := crcBurstUptoRow.holds Try.pinned (OpenSpec.upto crcBurstSpec)

/-- 'wicketmanlaw13.CrcLong', WHERE WHAT IT READS IS OF BULK AT MOST 1048576: true; the input reads as it did. -/
def crcLongUptoRow : OpenClaim := { program := "ytmepclalglmleaa", sum := "a14375531bb40b46c7436bf6e023d7662c32a2130870de28d1023c6e8edddd48", func := "wicketman/wicketmanlaw13.CrcLong", spec := "crcLong", unfollowed := true, recurses := true, apart := false, narrowed := true }
def CrcLongUptoSaid : Prop := crcLongUptoRow.holds Try.pinned (OpenSpec.upto crcLongSpec)

/-- 'wicketmanlaw13.CrcFrames', WHERE WHAT IT READS IS OF BULK AT MOST 1048576: true; the input reads as it did. -/
def crcFramesUptoRow : OpenClaim := { program := "ytmepclalglmleaa", sum := "a14375531bb40b46c7436bf6e023d7662c32a2130870de28d1023c6e8edddd48", func := "wicketman/wicketmanlaw13.CrcFrames", spec := "crcFrames", unfollowed := true, recurses := true, apart := false, narrowed := true }
def CrcFramesUptoSaid : Prop := crcFramesUptoRow.holds Try.pinned (OpenSpec.upto crcFramesSpec)

/-- 'wicketmanlaw13.CrcBack', WHERE WHAT IT READS IS OF BULK AT MOST 1048576: true; the input reads as it did. -/
def crcBackUptoRow : OpenClaim := { program := "ytmepclalglmleaa", sum := "a14375531bb40b46c7436bf6e023d7662c32a2130870de28d1023c6e8edddd48", func := "wicketman/wicketmanlaw13.CrcBack", spec := "crcBack", unfollowed := true, recurses := true, apart := false, narrowed := true }
def CrcBackUptoSaid : Prop := crcBackUptoRow.holds Try.pinned (OpenSpec.upto crcBackSpec)

/-- 'wicketmanlaw13.CrcSeqs', WHERE WHAT IT READS IS OF BULK AT MOST 1048576: true; the input reads as it did. -/
def crcSeqsUptoRow : OpenClaim := { program := "ytmepclalglmleaa", sum := "a14375531bb40b46c7436bf6e023d7662c32a2130870de28d1023c6e8edddd48", func := "wicketman/wicketmanlaw13.CrcSeqs", spec := "crcSeqs", unfollowed := true, recurses := true, apart := false, narrowed := true }
def CrcSeqsUptoSaid : Prop := crcSeqsUptoRow.holds Try.pinned (OpenSpec.upto crcSeqsSpec)

end Rows
end Go.Proofs.Ytmepclalglmleaa
