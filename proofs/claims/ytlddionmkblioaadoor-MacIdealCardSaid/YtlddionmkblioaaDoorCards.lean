/-
  DERIVED. GIVEN WITH THE SEED: THE CARDS: each row of YtlddionmkblioaaDoorRows.lean that lists a variable, with what it lists TIED to the program's text (the seventh form; the later family's looks); each row that meets fmt, with fmt's text TOLD by the authors' own Lean function (tested against real Go, not proved from fmt's source: count such statements apart). THE CARD IS WHAT COUNTS. Prove the row's statement (the work); the ties are given (YtlddionmkblioaaDoorTie.lean); close each card by the builder's one call (the guide's Derived/Test/ToyasCard.lean, 'card_holds'). Laid BY PROGRAM, IN A SANDBOX (cutbox-door.mjs). By AI agents, Wed Nov 11 2026. No macro, syntax, notation, axiom, sorry.
-/
import Derived.Test.YtlddionmkblioaaDoorRows
import GoSem.ClaimSeven
namespace Go.Proofs.YtlddionmkblioaaDoor
namespace Rows

/-- THE TIED CARD OF 'wicketmanlaw03.MacIdeal'. -/
def macIdealCard : Claim7 := { stood := { row := macIdealRow, standIns := [], harness := (true, "aad88baf359322b6342c8b0971b998ec0259ffc6597b9eee1ca971e8cbe9fc2c"), looks := false }, kinds := [], alts := [], laidByText := true, laidKinds := [.data], laidTests := true, laidLooks := .later }
def MacIdealCardSaid : Prop := Claim7.holds Tryd.pinned (.plain (OpenSpec.ofChange macIdealSpec)) macIdealCard

/-- THE SECOND FORM's CARD OF 'wicketmanlaw03.MacIdeal'. -/
def macIdealUptoCard : Claim7 := { stood := { row := macIdealUptoRow, standIns := [], harness := (true, "aad88baf359322b6342c8b0971b998ec0259ffc6597b9eee1ca971e8cbe9fc2c"), looks := false }, kinds := [], alts := [], laidByText := true, laidKinds := [.data], laidTests := true, laidLooks := .later }
def MacIdealUptoCardSaid : Prop := Claim7.holds Tryd.pinned (.plain (OpenSpec.upto macIdealSpec)) macIdealUptoCard
end Rows
end Go.Proofs.YtlddionmkblioaaDoor
