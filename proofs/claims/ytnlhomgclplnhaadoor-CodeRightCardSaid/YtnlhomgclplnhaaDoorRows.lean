/-
  NARROWER THAN 'FOR EVERY INPUT', by the rows' own cells (each row's printed sentence says how): CodeRight: laid · CodeSpoil: laid · CodeOps: laid · CodeBack: laid · CodeStates: laid.
  DERIVED. THE GIVEN ROWS OF THIS SEAT. 5 by the template 'for every input the law returns true; each argument reads behind the call as it read before'; 0 by the template 'total and deterministic' (their statements: YtnlhomgclplnhaaDoorTotals.lean).
  GIVEN WITH THE SEED: the statements are not yours to turn. If you find one false, say at which input.
  Laid BY PROGRAM, IN A SANDBOX (cutbox-rows.mjs): the forced cells as the released guide's own fill.sh prints them over the translation 0aa64db43f602adb… (all of the seat's roots in one cut). By AI agents, Wed Nov 11 2026. No macro, syntax, notation, axiom, sorry.
-/
import Derived.Test.YtnlhomgclplnhaaDoorChecked
import GoSem.PinnedTables
import GoSem.Claim
import GoSem.ClaimJoined
import GoSem.ClaimMapViews
import Derived.JoinedTies
import Derived.KernelRfl
namespace Go.Proofs.YtnlhomgclplnhaaDoor
/- THE CELL 'sum', in the pinned program and in every row, IS THE sha256 OF THE DUMP (.gsa) THAT YtnlhomgclplnhaaDoorProg.lean LOADS. Nothing in Lean hashes anything: it is a label: what it is worth is what the hold of that sum in a sandbox is worth. -/
noncomputable def Tryd.pinned : Pinned := { name := "ytnlhomgclplnhaadoor", sum := "0aa64db43f602adbadd2e2b9102ad682aadf8e4adb1824d21a03f5940ddd75ab", checked := Tryd.checked }
namespace Rows
def none {H : Type} : Left H := { results := [], args := [] }

/- WHAT THE LISTED PACKAGE-LEVEL VARIABLES READ AS WHEN THE CALL BEGINS. Each datum BY PROGRAM (the guide's laid-datum.mjs) off the statement by which the dump's own 'gosem.cut.vars' lays the variable. In a bare row this is a premise. The card (YtnlhomgclplnhaaDoorCards.lean) ties it to the program's text. -/
def laid_unicode_utf8_acceptRanges {H : Type} : DataW H := .agg [.agg [.lit (.int .u8 128), .lit (.int .u8 191)], .agg [.lit (.int .u8 160), .lit (.int .u8 191)], .agg [.lit (.int .u8 128), .lit (.int .u8 159)], .agg [.lit (.int .u8 144), .lit (.int .u8 191)], .agg [.lit (.int .u8 128), .lit (.int .u8 143)], .agg [.lit (.int .u8 0), .lit (.int .u8 0)], .agg [.lit (.int .u8 0), .lit (.int .u8 0)], .agg [.lit (.int .u8 0), .lit (.int .u8 0)], .agg [.lit (.int .u8 0), .lit (.int .u8 0)], .agg [.lit (.int .u8 0), .lit (.int .u8 0)], .agg [.lit (.int .u8 0), .lit (.int .u8 0)], .agg [.lit (.int .u8 0), .lit (.int .u8 0)], .agg [.lit (.int .u8 0), .lit (.int .u8 0)], .agg [.lit (.int .u8 0), .lit (.int .u8 0)], .agg [.lit (.int .u8 0), .lit (.int .u8 0)], .agg [.lit (.int .u8 0), .lit (.int .u8 0)]]
/-- One of Go's own tables, pinned by name: the form's constant. -/
def laid_unicode_utf8_first : DataW Unit := Go.Pinned.utf8First

/-- 'wicketmanlaw16.CodeRight': WHATEVER THE INPUT: true; the input reads as it did. -/
def codeRightSpec : ChangeSpec := { name := "codeRight", fn := fun _ => fun
  | [d1, d2, d3] => { results := [.lit (.bool true)], args := [d1, d2, d3] }
  | _ => none }
def codeRightRow : OpenClaim := { program := "ytnlhomgclplnhaadoor", sum := "0aa64db43f602adbadd2e2b9102ad682aadf8e4adb1824d21a03f5940ddd75ab", func := "wicketman/wicketmanlaw16.CodeRight", spec := "codeRight", unfollowed := true, recurses := true, named := ["unicode/utf8.first", "unicode/utf8.acceptRanges"], apart := false, laid := [("unicode/utf8.acceptRanges", laid_unicode_utf8_acceptRanges), ("unicode/utf8.first", laid_unicode_utf8_first)] }
def CodeRightSaid : Prop := codeRightRow.holds Tryd.pinned (OpenSpec.ofChange codeRightSpec)

/-- ITS FALSE NEIGHBOUR: 'it returns false'. Refute it at one input. -/
def codeRightWrong : ChangeSpec := { name := "codeRight", fn := fun _ => fun
  | [d1, d2, d3] => { results := [.lit (.bool false)], args := [d1, d2, d3] }
  | _ => none }
def CodeRightWrongFalsely : Prop := codeRightRow.holds Tryd.pinned (OpenSpec.ofChange codeRightWrong)

/-- 'wicketmanlaw16.CodeSpoil': WHATEVER THE INPUT: true; the input reads as it did. -/
def codeSpoilSpec : ChangeSpec := { name := "codeSpoil", fn := fun _ => fun
  | [d] => { results := [.lit (.bool true)], args := [d] }
  | _ => none }
def codeSpoilRow : OpenClaim := { program := "ytnlhomgclplnhaadoor", sum := "0aa64db43f602adbadd2e2b9102ad682aadf8e4adb1824d21a03f5940ddd75ab", func := "wicketman/wicketmanlaw16.CodeSpoil", spec := "codeSpoil", unfollowed := true, recurses := true, named := ["unicode/utf8.first", "unicode/utf8.acceptRanges"], apart := false, laid := [("unicode/utf8.acceptRanges", laid_unicode_utf8_acceptRanges), ("unicode/utf8.first", laid_unicode_utf8_first)] }
def CodeSpoilSaid : Prop := codeSpoilRow.holds Tryd.pinned (OpenSpec.ofChange codeSpoilSpec)

/-- ITS FALSE NEIGHBOUR: 'it returns false'. Refute it at one input. -/
def codeSpoilWrong : ChangeSpec := { name := "codeSpoil", fn := fun _ => fun
  | [d] => { results := [.lit (.bool false)], args := [d] }
  | _ => none }
def CodeSpoilWrongFalsely : Prop := codeSpoilRow.holds Tryd.pinned (OpenSpec.ofChange codeSpoilWrong)

/-- 'wicketmanlaw16.CodeOps': WHATEVER THE INPUT: true; the input reads as it did. -/
def codeOpsSpec : ChangeSpec := { name := "codeOps", fn := fun _ => fun
  | [d1, d2, d3, d4, d5, d6] => { results := [.lit (.bool true)], args := [d1, d2, d3, d4, d5, d6] }
  | _ => none }
def codeOpsRow : OpenClaim := { program := "ytnlhomgclplnhaadoor", sum := "0aa64db43f602adbadd2e2b9102ad682aadf8e4adb1824d21a03f5940ddd75ab", func := "wicketman/wicketmanlaw16.CodeOps", spec := "codeOps", unfollowed := true, recurses := true, named := ["unicode/utf8.first", "unicode/utf8.acceptRanges"], apart := false, laid := [("unicode/utf8.acceptRanges", laid_unicode_utf8_acceptRanges), ("unicode/utf8.first", laid_unicode_utf8_first)] }
def CodeOpsSaid : Prop := codeOpsRow.holds Tryd.pinned (OpenSpec.ofChange codeOpsSpec)

/-- ITS FALSE NEIGHBOUR: 'it returns false'. Refute it at one input. -/
def codeOpsWrong : ChangeSpec := { name := "codeOps", fn := fun _ => fun
  | [d1, d2, d3, d4, d5, d6] => { results := [.lit (.bool false)], args := [d1, d2, d3, d4, d5, d6] }
  | _ => none }
def CodeOpsWrongFalsely : Prop := codeOpsRow.holds Tryd.pinned (OpenSpec.ofChange codeOpsWrong)

/-- 'wicketmanlaw16.CodeBack': WHATEVER THE INPUT: true; the input reads as it did. -/
def codeBackSpec : ChangeSpec := { name := "codeBack", fn := fun _ => fun
  | [d1, d2, d3] => { results := [.lit (.bool true)], args := [d1, d2, d3] }
  | _ => none }
def codeBackRow : OpenClaim := { program := "ytnlhomgclplnhaadoor", sum := "0aa64db43f602adbadd2e2b9102ad682aadf8e4adb1824d21a03f5940ddd75ab", func := "wicketman/wicketmanlaw16.CodeBack", spec := "codeBack", unfollowed := true, recurses := true, named := ["unicode/utf8.first", "unicode/utf8.acceptRanges"], apart := false, laid := [("unicode/utf8.acceptRanges", laid_unicode_utf8_acceptRanges), ("unicode/utf8.first", laid_unicode_utf8_first)] }
def CodeBackSaid : Prop := codeBackRow.holds Tryd.pinned (OpenSpec.ofChange codeBackSpec)

/-- ITS FALSE NEIGHBOUR: 'it returns false'. Refute it at one input. -/
def codeBackWrong : ChangeSpec := { name := "codeBack", fn := fun _ => fun
  | [d1, d2, d3] => { results := [.lit (.bool false)], args := [d1, d2, d3] }
  | _ => none }
def CodeBackWrongFalsely : Prop := codeBackRow.holds Tryd.pinned (OpenSpec.ofChange codeBackWrong)

/-- 'wicketmanlaw16.CodeStates': WHATEVER THE INPUT: true; the input reads as it did. -/
def codeStatesSpec : ChangeSpec := { name := "codeStates", fn := fun _ => fun
  | [d1, d2, d3, d4, d5, d6] => { results := [.lit (.bool true)], args := [d1, d2, d3, d4, d5, d6] }
  | _ => none }
def codeStatesRow : OpenClaim := { program := "ytnlhomgclplnhaadoor", sum := "0aa64db43f602adbadd2e2b9102ad682aadf8e4adb1824d21a03f5940ddd75ab", func := "wicketman/wicketmanlaw16.CodeStates", spec := "codeStates", unfollowed := true, recurses := true, named := ["unicode/utf8.first", "unicode/utf8.acceptRanges"], apart := false, laid := [("unicode/utf8.acceptRanges", laid_unicode_utf8_acceptRanges), ("unicode/utf8.first", laid_unicode_utf8_first)] }
def CodeStatesSaid : Prop := codeStatesRow.holds Tryd.pinned (OpenSpec.ofChange codeStatesSpec)

/-- ITS FALSE NEIGHBOUR: 'it returns false'. Refute it at one input. -/
def codeStatesWrong : ChangeSpec := { name := "codeStates", fn := fun _ => fun
  | [d1, d2, d3, d4, d5, d6] => { results := [.lit (.bool false)], args := [d1, d2, d3, d4, d5, d6] }
  | _ => none }
def CodeStatesWrongFalsely : Prop := codeStatesRow.holds Tryd.pinned (OpenSpec.ofChange codeStatesWrong)

/- THE SECOND FORM. 'bulk': how many values and letters a reading holds, each counted each time it is reached (what is shared counts as often as it is met; a slice's spare places count too). A statement '..UptoSaid' is the law's where the arguments, and the package variables that the reading takes, are together of bulk at most 1048576: NARROWER than '..Said'. Prove '..Said' where nothing that the law and all that it calls make is longer than what came in: it says more and counts as full. Else prove '..UptoSaid'. A law counts once. -/
mutual
def uptoBulk {H : Type} : DataW H → Nat
  | .lit (.string bytes) => bytes.length + 1
  | .lit _ => 1
  | .nil => 1
  | .ptr d => uptoBulk d + 1
  | .slice elems spare => uptoBulkAll elems + uptoBulkAll spare + 1
  | .agg parts => uptoBulkAll parts + 1
  | .iface _ d => uptoBulk d + 1
  | .map entries => uptoBulkEntries entries + 1
  | .held _ => 1
def uptoBulkAll {H : Type} : List (DataW H) → Nat
  | [] => 0
  | d :: r => uptoBulk d + uptoBulkAll r
def uptoBulkEntries {H : Type} : List (Lit × DataW H) → Nat
  | [] => 0
  | x :: r => uptoBulkEntry x + uptoBulkEntries r
def uptoBulkEntry {H : Type} : Lit × DataW H → Nat
  | (.string bytes, d) => bytes.length + uptoBulk d + 1
  | (_, d) => uptoBulk d + 1
 end
def uptoSmall : (H : Type) → List (DataW H) → Bool := fun _ ds => decide (uptoBulkAll ds ≤ 1048576)
def OpenSpec.upto (s : _root_.Go.ChangeSpec) : _root_.Go.OpenSpec := { _root_.Go.OpenSpec.ofChange s with cond := some uptoSmall }

/-- 'wicketmanlaw16.CodeRight', WHERE WHAT IT READS IS OF BULK AT MOST 1048576: true; the input reads as it did. -/
def codeRightUptoRow : OpenClaim := { program := "ytnlhomgclplnhaadoor", sum := "0aa64db43f602adbadd2e2b9102ad682aadf8e4adb1824d21a03f5940ddd75ab", func := "wicketman/wicketmanlaw16.CodeRight", spec := "codeRight", unfollowed := true, recurses := true, named := ["unicode/utf8.first", "unicode/utf8.acceptRanges"], apart := false, laid := [("unicode/utf8.acceptRanges", laid_unicode_utf8_acceptRanges), ("unicode/utf8.first", laid_unicode_utf8_first)], narrowed := true }
def CodeRightUptoSaid : Prop := codeRightUptoRow.holds Tryd.pinned (OpenSpec.upto codeRightSpec)

/-- 'wicketmanlaw16.CodeSpoil', WHERE WHAT IT READS IS OF BULK AT MOST 1048576: true; the input reads as it did. -/
def codeSpoilUptoRow : OpenClaim := { program := "ytnlhomgclplnhaadoor", sum := "0aa64db43f602adbadd2e2b9102ad682aadf8e4adb1824d21a03f5940ddd75ab", func := "wicketman/wicketmanlaw16.CodeSpoil", spec := "codeSpoil", unfollowed := true, recurses := true, named := ["unicode/utf8.first", "unicode/utf8.acceptRanges"], apart := false, laid := [("unicode/utf8.acceptRanges", laid_unicode_utf8_acceptRanges), ("unicode/utf8.first", laid_unicode_utf8_first)], narrowed := true }
def CodeSpoilUptoSaid : Prop := codeSpoilUptoRow.holds Tryd.pinned (OpenSpec.upto codeSpoilSpec)

/-- 'wicketmanlaw16.CodeOps', WHERE WHAT IT READS IS OF BULK AT MOST 1048576: true; the input reads as it did. -/
def codeOpsUptoRow : OpenClaim := { program := "ytnlhomgclplnhaadoor", sum := "0aa64db43f602adbadd2e2b9102ad682aadf8e4adb1824d21a03f5940ddd75ab", func := "wicketman/wicketmanlaw16.CodeOps", spec := "codeOps", unfollowed := true, recurses := true, named := ["unicode/utf8.first", "unicode/utf8.acceptRanges"], apart := false, laid := [("unicode/utf8.acceptRanges", laid_unicode_utf8_acceptRanges), ("unicode/utf8.first", laid_unicode_utf8_first)], narrowed := true }
def CodeOpsUptoSaid : Prop := codeOpsUptoRow.holds Tryd.pinned (OpenSpec.upto codeOpsSpec)

/-- 'wicketmanlaw16.CodeBack', WHERE WHAT IT READS IS OF BULK AT MOST 1048576: true; the input reads as it did. -/
def codeBackUptoRow : OpenClaim := { program := "ytnlhomgclplnhaadoor", sum := "0aa64db43f602adbadd2e2b9102ad682aadf8e4adb1824d21a03f5940ddd75ab", func := "wicketman/wicketmanlaw16.CodeBack", spec := "codeBack", unfollowed := true, recurses := true, named := ["unicode/utf8.first", "unicode/utf8.acceptRanges"], apart := false, laid := [("unicode/utf8.acceptRanges", laid_unicode_utf8_acceptRanges), ("unicode/utf8.first", laid_unicode_utf8_first)], narrowed := true }
def CodeBackUptoSaid : Prop := codeBackUptoRow.holds Tryd.pinned (OpenSpec.upto codeBackSpec)

/-- 'wicketmanlaw16.CodeStates', WHERE WHAT IT READS IS OF BULK AT MOST 1048576: true; the input reads as it did. -/
def codeStatesUptoRow : OpenClaim := { program := "ytnlhomgclplnhaadoor", sum := "0aa64db43f602adbadd2e2b9102ad682aadf8e4adb1824d21a03f5940ddd75ab", func := "wicketman/wicketmanlaw16.CodeStates", spec := "codeStates", unfollowed := true, recurses := true, named := ["unicode/utf8.first", "unicode/utf8.acceptRanges"], apart := false, laid := [("unicode/utf8.acceptRanges", laid_unicode_utf8_acceptRanges), ("unicode/utf8.first", laid_unicode_utf8_first)], narrowed := true }
def CodeStatesUptoSaid : Prop := codeStatesUptoRow.holds Tryd.pinned (OpenSpec.upto codeStatesSpec)

end Rows
end Go.Proofs.YtnlhomgclplnhaaDoor
