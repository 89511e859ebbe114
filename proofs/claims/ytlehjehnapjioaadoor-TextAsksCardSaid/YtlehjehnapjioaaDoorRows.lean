/-
  NARROWER THAN 'FOR EVERY INPUT', by the rows' own cells (each row's printed sentence says how): TextAsks: laid · TextRunes: laid · TextSafe: laid · TextBounds: laid · TextFirst: laid · TextLong: laid.
  DERIVED. THE GIVEN ROWS OF THIS SEAT. 6 by the template 'for every input the law returns true; each argument reads behind the call as it read before'; 0 by the template 'total and deterministic' (their statements: YtlehjehnapjioaaDoorTotals.lean).
  GIVEN WITH THE SEED: the statements are not yours to turn. If you find one false, say at which input.
  Laid BY PROGRAM, IN A SANDBOX (cutbox-rows.mjs): the forced cells as the released guide's own fill.sh prints them over the translation b624291989103c4f… (all of the seat's roots in one cut). By AI agents, Wed Nov 11 2026. No macro, syntax, notation, axiom, sorry.
-/
import Derived.Test.YtlehjehnapjioaaDoorChecked
import GoSem.PinnedTables
import GoSem.Claim
import GoSem.ClaimJoined
import GoSem.ClaimMapViews
import Derived.JoinedTies
import Derived.KernelRfl
namespace Go.Proofs.YtlehjehnapjioaaDoor
/- THE CELL 'sum', in the pinned program and in every row, IS THE sha256 OF THE DUMP (.gsa) THAT YtlehjehnapjioaaDoorProg.lean LOADS. Nothing in Lean hashes anything: it is a label: what it is worth is what the hold of that sum in a sandbox is worth. -/
noncomputable def Tryd.pinned : Pinned := { name := "ytlehjehnapjioaadoor", sum := "b624291989103c4f35283bdd05173599c10e971045781ab0ba920dfdb97187d3", checked := Tryd.checked }
namespace Rows
def none {H : Type} : Left H := { results := [], args := [] }

/- WHAT THE LISTED PACKAGE-LEVEL VARIABLES READ AS WHEN THE CALL BEGINS. Each datum BY PROGRAM (the guide's laid-datum.mjs) off the statement by which the dump's own 'gosem.cut.vars' lays the variable. In a bare row this is a premise. The card (YtlehjehnapjioaaDoorCards.lean) ties it to the program's text. -/
def laid_unicode_utf8_acceptRanges {H : Type} : DataW H := .agg [.agg [.lit (.int .u8 128), .lit (.int .u8 191)], .agg [.lit (.int .u8 160), .lit (.int .u8 191)], .agg [.lit (.int .u8 128), .lit (.int .u8 159)], .agg [.lit (.int .u8 144), .lit (.int .u8 191)], .agg [.lit (.int .u8 128), .lit (.int .u8 143)], .agg [.lit (.int .u8 0), .lit (.int .u8 0)], .agg [.lit (.int .u8 0), .lit (.int .u8 0)], .agg [.lit (.int .u8 0), .lit (.int .u8 0)], .agg [.lit (.int .u8 0), .lit (.int .u8 0)], .agg [.lit (.int .u8 0), .lit (.int .u8 0)], .agg [.lit (.int .u8 0), .lit (.int .u8 0)], .agg [.lit (.int .u8 0), .lit (.int .u8 0)], .agg [.lit (.int .u8 0), .lit (.int .u8 0)], .agg [.lit (.int .u8 0), .lit (.int .u8 0)], .agg [.lit (.int .u8 0), .lit (.int .u8 0)], .agg [.lit (.int .u8 0), .lit (.int .u8 0)]]
/-- One of Go's own tables, pinned by name: the form's constant. -/
def laid_unicode_utf8_first : DataW Unit := Go.Pinned.utf8First

/-- 'wicketmanlaw06.TextAsks': WHATEVER THE INPUT: true; the input reads as it did. -/
def textAsksSpec : ChangeSpec := { name := "textAsks", fn := fun _ => fun
  | [d1, d2] => { results := [.lit (.bool true)], args := [d1, d2] }
  | _ => none }
def textAsksRow : OpenClaim := { program := "ytlehjehnapjioaadoor", sum := "b624291989103c4f35283bdd05173599c10e971045781ab0ba920dfdb97187d3", func := "wicketman/wicketmanlaw06.TextAsks", spec := "textAsks", inPlace := ["internal/abi.NoEscape"], unfollowed := true, recurses := true, named := ["unicode/utf8.first", "unicode/utf8.acceptRanges"], apart := false, laid := [("unicode/utf8.acceptRanges", laid_unicode_utf8_acceptRanges), ("unicode/utf8.first", laid_unicode_utf8_first)] }
def TextAsksSaid : Prop := textAsksRow.holds Tryd.pinned (OpenSpec.ofChange textAsksSpec)

/-- ITS FALSE NEIGHBOUR: 'it returns false'. Refute it at one input. -/
def textAsksWrong : ChangeSpec := { name := "textAsks", fn := fun _ => fun
  | [d1, d2] => { results := [.lit (.bool false)], args := [d1, d2] }
  | _ => none }
def TextAsksWrongFalsely : Prop := textAsksRow.holds Tryd.pinned (OpenSpec.ofChange textAsksWrong)

/-- 'wicketmanlaw06.TextRunes': WHATEVER THE INPUT: true; the input reads as it did. -/
def textRunesSpec : ChangeSpec := { name := "textRunes", fn := fun _ => fun
  | [d1, d2] => { results := [.lit (.bool true)], args := [d1, d2] }
  | _ => none }
def textRunesRow : OpenClaim := { program := "ytlehjehnapjioaadoor", sum := "b624291989103c4f35283bdd05173599c10e971045781ab0ba920dfdb97187d3", func := "wicketman/wicketmanlaw06.TextRunes", spec := "textRunes", inPlace := ["internal/abi.NoEscape"], unfollowed := true, recurses := true, named := ["unicode/utf8.first", "unicode/utf8.acceptRanges"], apart := false, laid := [("unicode/utf8.acceptRanges", laid_unicode_utf8_acceptRanges), ("unicode/utf8.first", laid_unicode_utf8_first)] }
def TextRunesSaid : Prop := textRunesRow.holds Tryd.pinned (OpenSpec.ofChange textRunesSpec)

/-- ITS FALSE NEIGHBOUR: 'it returns false'. Refute it at one input. -/
def textRunesWrong : ChangeSpec := { name := "textRunes", fn := fun _ => fun
  | [d1, d2] => { results := [.lit (.bool false)], args := [d1, d2] }
  | _ => none }
def TextRunesWrongFalsely : Prop := textRunesRow.holds Tryd.pinned (OpenSpec.ofChange textRunesWrong)

/-- 'wicketmanlaw06.TextSafe': WHATEVER THE INPUT: true; the input reads as it did. -/
def textSafeSpec : ChangeSpec := { name := "textSafe", fn := fun _ => fun
  | [d1, d2, d3] => { results := [.lit (.bool true)], args := [d1, d2, d3] }
  | _ => none }
def textSafeRow : OpenClaim := { program := "ytlehjehnapjioaadoor", sum := "b624291989103c4f35283bdd05173599c10e971045781ab0ba920dfdb97187d3", func := "wicketman/wicketmanlaw06.TextSafe", spec := "textSafe", inPlace := ["internal/abi.NoEscape"], unfollowed := true, recurses := true, named := ["unicode/utf8.first", "unicode/utf8.acceptRanges"], apart := false, laid := [("unicode/utf8.acceptRanges", laid_unicode_utf8_acceptRanges), ("unicode/utf8.first", laid_unicode_utf8_first)] }
def TextSafeSaid : Prop := textSafeRow.holds Tryd.pinned (OpenSpec.ofChange textSafeSpec)

/-- ITS FALSE NEIGHBOUR: 'it returns false'. Refute it at one input. -/
def textSafeWrong : ChangeSpec := { name := "textSafe", fn := fun _ => fun
  | [d1, d2, d3] => { results := [.lit (.bool false)], args := [d1, d2, d3] }
  | _ => none }
def TextSafeWrongFalsely : Prop := textSafeRow.holds Tryd.pinned (OpenSpec.ofChange textSafeWrong)

/-- 'wicketmanlaw06.TextBounds': WHATEVER THE INPUT: true; the input reads as it did. -/
def textBoundsSpec : ChangeSpec := { name := "textBounds", fn := fun _ => fun
  | [d1, d2] => { results := [.lit (.bool true)], args := [d1, d2] }
  | _ => none }
def textBoundsRow : OpenClaim := { program := "ytlehjehnapjioaadoor", sum := "b624291989103c4f35283bdd05173599c10e971045781ab0ba920dfdb97187d3", func := "wicketman/wicketmanlaw06.TextBounds", spec := "textBounds", inPlace := ["internal/abi.NoEscape"], unfollowed := true, recurses := true, named := ["unicode/utf8.first", "unicode/utf8.acceptRanges"], apart := false, laid := [("unicode/utf8.acceptRanges", laid_unicode_utf8_acceptRanges), ("unicode/utf8.first", laid_unicode_utf8_first)] }
def TextBoundsSaid : Prop := textBoundsRow.holds Tryd.pinned (OpenSpec.ofChange textBoundsSpec)

/-- ITS FALSE NEIGHBOUR: 'it returns false'. Refute it at one input. -/
def textBoundsWrong : ChangeSpec := { name := "textBounds", fn := fun _ => fun
  | [d1, d2] => { results := [.lit (.bool false)], args := [d1, d2] }
  | _ => none }
def TextBoundsWrongFalsely : Prop := textBoundsRow.holds Tryd.pinned (OpenSpec.ofChange textBoundsWrong)

/-- 'wicketmanlaw06.TextFirst': WHATEVER THE INPUT: true; the input reads as it did. -/
def textFirstSpec : ChangeSpec := { name := "textFirst", fn := fun _ => fun
  | [d1, d2] => { results := [.lit (.bool true)], args := [d1, d2] }
  | _ => none }
def textFirstRow : OpenClaim := { program := "ytlehjehnapjioaadoor", sum := "b624291989103c4f35283bdd05173599c10e971045781ab0ba920dfdb97187d3", func := "wicketman/wicketmanlaw06.TextFirst", spec := "textFirst", inPlace := ["internal/abi.NoEscape"], unfollowed := true, recurses := true, named := ["unicode/utf8.first", "unicode/utf8.acceptRanges"], apart := false, laid := [("unicode/utf8.acceptRanges", laid_unicode_utf8_acceptRanges), ("unicode/utf8.first", laid_unicode_utf8_first)] }
def TextFirstSaid : Prop := textFirstRow.holds Tryd.pinned (OpenSpec.ofChange textFirstSpec)

/-- ITS FALSE NEIGHBOUR: 'it returns false'. Refute it at one input. -/
def textFirstWrong : ChangeSpec := { name := "textFirst", fn := fun _ => fun
  | [d1, d2] => { results := [.lit (.bool false)], args := [d1, d2] }
  | _ => none }
def TextFirstWrongFalsely : Prop := textFirstRow.holds Tryd.pinned (OpenSpec.ofChange textFirstWrong)

/-- 'wicketmanlaw06.TextLong': WHATEVER THE INPUT: true; the input reads as it did. -/
def textLongSpec : ChangeSpec := { name := "textLong", fn := fun _ => fun
  | [d] => { results := [.lit (.bool true)], args := [d] }
  | _ => none }
def textLongRow : OpenClaim := { program := "ytlehjehnapjioaadoor", sum := "b624291989103c4f35283bdd05173599c10e971045781ab0ba920dfdb97187d3", func := "wicketman/wicketmanlaw06.TextLong", spec := "textLong", inPlace := ["internal/abi.NoEscape"], unfollowed := true, recurses := true, named := ["unicode/utf8.first", "unicode/utf8.acceptRanges"], apart := false, laid := [("unicode/utf8.acceptRanges", laid_unicode_utf8_acceptRanges), ("unicode/utf8.first", laid_unicode_utf8_first)] }
def TextLongSaid : Prop := textLongRow.holds Tryd.pinned (OpenSpec.ofChange textLongSpec)

/-- ITS FALSE NEIGHBOUR: 'it returns false'. Refute it at one input. -/
def textLongWrong : ChangeSpec := { name := "textLong", fn := fun _ => fun
  | [d] => { results := [.lit (.bool false)], args := [d] }
  | _ => none }
def TextLongWrongFalsely : Prop := textLongRow.holds Tryd.pinned (OpenSpec.ofChange textLongWrong)

/- THE SECOND FORM. 'bulk': how many values and letters a reading holds, each counted each time it is reached (what is shared counts as often as it is met; a slice's spare places count too). A statement '..UptoSaid' is the law's where the arguments, and the package variables that the reading takes, are together of bulk at most 1048576: NARROWER than '..Said'. Prove '..Said' where nothing that the law and all that it calls make is longer than what came in: it says more and counts as full. Else prove '..UptoSaid'. A law counts once. -/
mutual
def uptoBulk {H : Type} : DataW H → Nat
  | .lit (.string bytes) => bytes.length + 1
  | .lit _ => 1
  | .nil => 1
  | .ptr d => uptoBulk d + 1
  | .slice elems spare => uptoBulkAll elems + uptoBulkAll spare + 1
  | .agg parts => uptoBulkAll parts + 1
  | .iface _ d => uptoBulk d + 1
  | .map entries => uptoBulkEntries entries + 1
  | .held _ => 1
def uptoBulkAll {H : Type} : List (DataW H) → Nat
  | [] => 0
  | d :: r => uptoBulk d + uptoBulkAll r
def uptoBulkEntries {H : Type} : List (Lit × DataW H) → Nat
  | [] => 0
  | x :: r => uptoBulkEntry x + uptoBulkEntries r
def uptoBulkEntry {H : Type} : Lit × DataW H → Nat
  | (.string bytes, d) => bytes.length + uptoBulk d + 1
  | (_, d) => uptoBulk d + 1
 end
def uptoSmall : (H : Type) → List (DataW H) → Bool := fun _ ds => decide (uptoBulkAll ds ≤ 1048576)
def OpenSpec.upto (s : _root_.Go.ChangeSpec) : _root_.Go.OpenSpec := { _root_.Go.OpenSpec.ofChange s with cond := some uptoSmall }

/-- 'wicketmanlaw06.TextAsks', WHERE WHAT IT READS IS OF BULK AT MOST 1048576: true; the input reads as it did. -/
def textAsksUptoRow : OpenClaim := { program := "ytlehjehnapjioaadoor", sum := "b624291989103c4f35283bdd05173599c10e971045781ab0ba920dfdb97187d3", func := "wicketman/wicketmanlaw06.TextAsks", spec := "textAsks", inPlace := ["internal/abi.NoEscape"], unfollowed := true, recurses := true, named := ["unicode/utf8.first", "unicode/utf8.acceptRanges"], apart := false, laid := [("unicode/utf8.acceptRanges", laid_unicode_utf8_acceptRanges), ("unicode/utf8.first", laid_unicode_utf8_first)], narrowed := true }
def TextAsksUptoSaid : Prop := textAsksUptoRow.holds Tryd.pinned (OpenSpec.upto textAsksSpec)

/-- 'wicketmanlaw06.TextRunes', WHERE WHAT IT READS IS OF BULK AT MOST 1048576: true; the input reads as it did. -/
def textRunesUptoRow : OpenClaim := { program := "ytlehjehnapjioaadoor", sum := "b624291989103c4f35283bdd05173599c10e971045781ab0ba920dfdb97187d3", func := "wicketman/wicketmanlaw06.TextRunes", spec := "textRunes", inPlace := ["internal/abi.NoEscape"], unfollowed := true, recurses := true, named := ["unicode/utf8.first", "unicode/utf8.acceptRanges"], apart := false, laid := [("unicode/utf8.acceptRanges", laid_unicode_utf8_acceptRanges), ("unicode/utf8.first", laid_unicode_utf8_first)], narrowed := true }
def TextRunesUptoSaid : Prop := textRunesUptoRow.holds Tryd.pinned (OpenSpec.upto textRunesSpec)

/-- 'wicketmanlaw06.TextSafe', WHERE WHAT IT READS IS OF BULK AT MOST 1048576: true; the input reads as it did. -/
def textSafeUptoRow : OpenClaim := { program := "ytlehjehnapjioaadoor", sum := "b624291989103c4f35283bdd05173599c10e971045781ab0ba920dfdb97187d3", func := "wicketman/wicketmanlaw06.TextSafe", spec := "textSafe", inPlace := ["internal/abi.NoEscape"], unfollowed := true, recurses := true, named := ["unicode/utf8.first", "unicode/utf8.acceptRanges"], apart := false, laid := [("unicode/utf8.acceptRanges", laid_unicode_utf8_acceptRanges), ("unicode/utf8.first", laid_unicode_utf8_first)], narrowed := true }
def TextSafeUptoSaid : Prop := textSafeUptoRow.holds Tryd.pinned (OpenSpec.upto textSafeSpec)

/-- 'wicketmanlaw06.TextBounds', WHERE WHAT IT READS IS OF BULK AT MOST 1048576: true; the input reads as it did. -/
def textBoundsUptoRow : OpenClaim := { program := "ytlehjehnapjioaadoor", sum := "b624291989103c4f35283bdd05173599c10e971045781ab0ba920dfdb97187d3", func := "wicketman/wicketmanlaw06.TextBounds", spec := "textBounds", inPlace := ["internal/abi.NoEscape"], unfollowed := true, recurses := true, named := ["unicode/utf8.first", "unicode/utf8.acceptRanges"], apart := false, laid := [("unicode/utf8.acceptRanges", laid_unicode_utf8_acceptRanges), ("unicode/utf8.first", laid_unicode_utf8_first)], narrowed := true }
def TextBoundsUptoSaid : Prop := textBoundsUptoRow.holds Tryd.pinned (OpenSpec.upto textBoundsSpec)

/-- 'wicketmanlaw06.TextFirst', WHERE WHAT IT READS IS OF BULK AT MOST 1048576: true; the input reads as it did. -/
def textFirstUptoRow : OpenClaim := { program := "ytlehjehnapjioaadoor", sum := "b624291989103c4f35283bdd05173599c10e971045781ab0ba920dfdb97187d3", func := "wicketman/wicketmanlaw06.TextFirst", spec := "textFirst", inPlace := ["internal/abi.NoEscape"], unfollowed := true, recurses := true, named := ["unicode/utf8.first", "unicode/utf8.acceptRanges"], apart := false, laid := [("unicode/utf8.acceptRanges", laid_unicode_utf8_acceptRanges), ("unicode/utf8.first", laid_unicode_utf8_first)], narrowed := true }
def TextFirstUptoSaid : Prop := textFirstUptoRow.holds Tryd.pinned (OpenSpec.upto textFirstSpec)

/-- 'wicketmanlaw06.TextLong', WHERE WHAT IT READS IS OF BULK AT MOST 1048576: true; the input reads as it did. -/
def textLongUptoRow : OpenClaim := { program := "ytlehjehnapjioaadoor", sum := "b624291989103c4f35283bdd05173599c10e971045781ab0ba920dfdb97187d3", func := "wicketman/wicketmanlaw06.TextLong", spec := "textLong", inPlace := ["internal/abi.NoEscape"], unfollowed := true, recurses := true, named := ["unicode/utf8.first", "unicode/utf8.acceptRanges"], apart := false, laid := [("unicode/utf8.acceptRanges", laid_unicode_utf8_acceptRanges), ("unicode/utf8.first", laid_unicode_utf8_first)], narrowed := true }
def TextLongUptoSaid : Prop := textLongUptoRow.holds Tryd.pinned (OpenSpec.upto textLongSpec)

end Rows
end Go.Proofs.YtlehjehnapjioaaDoor
