/-
  DERIVED. GIVEN WITH THE SEED: THE CARDS: each row of YtlehjehnapjioaaDoorRows.lean that lists a variable, with what it lists TIED to the program's text (the seventh form; the later family's looks); each row that meets fmt, with fmt's text TOLD by the authors' own Lean function (tested against real Go, not proved from fmt's source: count such statements apart). THE CARD IS WHAT COUNTS. Prove the row's statement (the work); the ties are given (YtlehjehnapjioaaDoorTie.lean); close each card by the builder's one call (the guide's Derived/Test/ToyasCard.lean, 'card_holds'). Laid BY PROGRAM, IN A SANDBOX (cutbox-door.mjs). By AI agents, Wed Nov 11 2026. No macro, syntax, notation, axiom, sorry.
-/
import Derived.Test.YtlehjehnapjioaaDoorRows
import GoSem.ClaimSeven
namespace Go.Proofs.YtlehjehnapjioaaDoor
namespace Rows

/-- THE TIED CARD OF 'wicketmanlaw06.TextAsks'. -/
def textAsksCard : Claim7 := { stood := { row := textAsksRow, standIns := [], harness := (true, "c7cf2ec06c39fa979a222a81a549c03f83db32d593b115f83cbb0f34145400a3"), looks := false }, kinds := [], alts := [], laidByText := true, laidKinds := [.data, .pinned], laidTests := true, laidLooks := .later }
def TextAsksCardSaid : Prop := Claim7.holds Tryd.pinned (.plain (OpenSpec.ofChange textAsksSpec)) textAsksCard

/-- THE TIED CARD OF 'wicketmanlaw06.TextRunes'. -/
def textRunesCard : Claim7 := { stood := { row := textRunesRow, standIns := [], harness := (true, "c7cf2ec06c39fa979a222a81a549c03f83db32d593b115f83cbb0f34145400a3"), looks := false }, kinds := [], alts := [], laidByText := true, laidKinds := [.data, .pinned], laidTests := true, laidLooks := .later }
def TextRunesCardSaid : Prop := Claim7.holds Tryd.pinned (.plain (OpenSpec.ofChange textRunesSpec)) textRunesCard

/-- THE TIED CARD OF 'wicketmanlaw06.TextSafe'. -/
def textSafeCard : Claim7 := { stood := { row := textSafeRow, standIns := [], harness := (true, "c7cf2ec06c39fa979a222a81a549c03f83db32d593b115f83cbb0f34145400a3"), looks := false }, kinds := [], alts := [], laidByText := true, laidKinds := [.data, .pinned], laidTests := true, laidLooks := .later }
def TextSafeCardSaid : Prop := Claim7.holds Tryd.pinned (.plain (OpenSpec.ofChange textSafeSpec)) textSafeCard

/-- THE TIED CARD OF 'wicketmanlaw06.TextBounds'. -/
def textBoundsCard : Claim7 := { stood := { row := textBoundsRow, standIns := [], harness := (true, "c7cf2ec06c39fa979a222a81a549c03f83db32d593b115f83cbb0f34145400a3"), looks := false }, kinds := [], alts := [], laidByText := true, laidKinds := [.data, .pinned], laidTests := true, laidLooks := .later }
def TextBoundsCardSaid : Prop := Claim7.holds Tryd.pinned (.plain (OpenSpec.ofChange textBoundsSpec)) textBoundsCard

/-- THE TIED CARD OF 'wicketmanlaw06.TextFirst'. -/
def textFirstCard : Claim7 := { stood := { row := textFirstRow, standIns := [], harness := (true, "c7cf2ec06c39fa979a222a81a549c03f83db32d593b115f83cbb0f34145400a3"), looks := false }, kinds := [], alts := [], laidByText := true, laidKinds := [.data, .pinned], laidTests := true, laidLooks := .later }
def TextFirstCardSaid : Prop := Claim7.holds Tryd.pinned (.plain (OpenSpec.ofChange textFirstSpec)) textFirstCard

/-- THE TIED CARD OF 'wicketmanlaw06.TextLong'. -/
def textLongCard : Claim7 := { stood := { row := textLongRow, standIns := [], harness := (true, "c7cf2ec06c39fa979a222a81a549c03f83db32d593b115f83cbb0f34145400a3"), looks := false }, kinds := [], alts := [], laidByText := true, laidKinds := [.data, .pinned], laidTests := true, laidLooks := .later }
def TextLongCardSaid : Prop := Claim7.holds Tryd.pinned (.plain (OpenSpec.ofChange textLongSpec)) textLongCard

/-- THE SECOND FORM's CARD OF 'wicketmanlaw06.TextAsks'. -/
def textAsksUptoCard : Claim7 := { stood := { row := textAsksUptoRow, standIns := [], harness := (true, "c7cf2ec06c39fa979a222a81a549c03f83db32d593b115f83cbb0f34145400a3"), looks := false }, kinds := [], alts := [], laidByText := true, laidKinds := [.data, .pinned], laidTests := true, laidLooks := .later }
def TextAsksUptoCardSaid : Prop := Claim7.holds Tryd.pinned (.plain (OpenSpec.upto textAsksSpec)) textAsksUptoCard

/-- THE SECOND FORM's CARD OF 'wicketmanlaw06.TextRunes'. -/
def textRunesUptoCard : Claim7 := { stood := { row := textRunesUptoRow, standIns := [], harness := (true, "c7cf2ec06c39fa979a222a81a549c03f83db32d593b115f83cbb0f34145400a3"), looks := false }, kinds := [], alts := [], laidByText := true, laidKinds := [.data, .pinned], laidTests := true, laidLooks := .later }
def TextRunesUptoCardSaid : Prop := Claim7.holds Tryd.pinned (.plain (OpenSpec.upto textRunesSpec)) textRunesUptoCard

/-- THE SECOND FORM's CARD OF 'wicketmanlaw06.TextSafe'. -/
def textSafeUptoCard : Claim7 := { stood := { row := textSafeUptoRow, standIns := [], harness := (true, "c7cf2ec06c39fa979a222a81a549c03f83db32d593b115f83cbb0f34145400a3"), looks := false }, kinds := [], alts := [], laidByText := true, laidKinds := [.data, .pinned], laidTests := true, laidLooks := .later }
def TextSafeUptoCardSaid : Prop := Claim7.holds Tryd.pinned (.plain (OpenSpec.upto textSafeSpec)) textSafeUptoCard

/-- THE SECOND FORM's CARD OF 'wicketmanlaw06.TextBounds'. -/
def textBoundsUptoCard : Claim7 := { stood := { row := textBoundsUptoRow, standIns := [], harness := (true, "c7cf2ec06c39fa979a222a81a549c03f83db32d593b115f83cbb0f34145400a3"), looks := false }, kinds := [], alts := [], laidByText := true, laidKinds := [.data, .pinned], laidTests := true, laidLooks := .later }
def TextBoundsUptoCardSaid : Prop := Claim7.holds Tryd.pinned (.plain (OpenSpec.upto textBoundsSpec)) textBoundsUptoCard

/-- THE SECOND FORM's CARD OF 'wicketmanlaw06.TextFirst'. -/
def textFirstUptoCard : Claim7 := { stood := { row := textFirstUptoRow, standIns := [], harness := (true, "c7cf2ec06c39fa979a222a81a549c03f83db32d593b115f83cbb0f34145400a3"), looks := false }, kinds := [], alts := [], laidByText := true, laidKinds := [.data, .pinned], laidTests := true, laidLooks := .later }
def TextFirstUptoCardSaid : Prop := Claim7.holds Tryd.pinned (.plain (OpenSpec.upto textFirstSpec)) textFirstUptoCard

/-- THE SECOND FORM's CARD OF 'wicketmanlaw06.TextLong'. -/
def textLongUptoCard : Claim7 := { stood := { row := textLongUptoRow, standIns := [], harness := (true, "c7cf2ec06c39fa979a222a81a549c03f83db32d593b115f83cbb0f34145400a3"), looks := false }, kinds := [], alts := [], laidByText := true, laidKinds := [.data, .pinned], laidTests := true, laidLooks := .later }
def TextLongUptoCardSaid : Prop := Claim7.holds Tryd.pinned (.plain (OpenSpec.upto textLongSpec)) textLongUptoCard
end Rows
end Go.Proofs.YtlehjehnapjioaaDoor
