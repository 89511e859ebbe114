/-
  DERIVED. GIVEN WITH THE SEED: THE CARDS: each row of YtnlhomgclplnhaaDoorRows.lean that lists a variable, with what it lists TIED to the program's text (the seventh form; the later family's looks); each row that meets fmt, with fmt's text TOLD by the authors' own Lean function (tested against real Go, not proved from fmt's source: count such statements apart). THE CARD IS WHAT COUNTS. Prove the row's statement (the work); the ties are given (YtnlhomgclplnhaaDoorTie.lean); close each card by the builder's one call (the guide's Derived/Test/ToyasCard.lean, 'card_holds'). Laid BY PROGRAM, IN A SANDBOX (cutbox-door.mjs). By AI agents, Wed Nov 11 2026. No macro, syntax, notation, axiom, sorry.
-/
import Derived.Test.YtnlhomgclplnhaaDoorRows
import GoSem.ClaimSeven
namespace Go.Proofs.YtnlhomgclplnhaaDoor
namespace Rows

/-- THE TIED CARD OF 'wicketmanlaw16.CodeRight'. -/
def codeRightCard : Claim7 := { stood := { row := codeRightRow, standIns := [], harness := (true, "7c5e076b1be9538397972fc83c73593764824683042cf91751f902f23afa5d51"), looks := true }, kinds := [], alts := [], laidByText := true, laidKinds := [.data, .pinned], laidTests := true, laidLooks := .later }
def CodeRightCardSaid : Prop := Claim7.holds Tryd.pinned (.plain (OpenSpec.ofChange codeRightSpec)) codeRightCard

/-- THE TIED CARD OF 'wicketmanlaw16.CodeSpoil'. -/
def codeSpoilCard : Claim7 := { stood := { row := codeSpoilRow, standIns := [], harness := (true, "7c5e076b1be9538397972fc83c73593764824683042cf91751f902f23afa5d51"), looks := true }, kinds := [], alts := [], laidByText := true, laidKinds := [.data, .pinned], laidTests := true, laidLooks := .later }
def CodeSpoilCardSaid : Prop := Claim7.holds Tryd.pinned (.plain (OpenSpec.ofChange codeSpoilSpec)) codeSpoilCard

/-- THE TIED CARD OF 'wicketmanlaw16.CodeOps'. -/
def codeOpsCard : Claim7 := { stood := { row := codeOpsRow, standIns := [], harness := (true, "7c5e076b1be9538397972fc83c73593764824683042cf91751f902f23afa5d51"), looks := true }, kinds := [], alts := [], laidByText := true, laidKinds := [.data, .pinned], laidTests := true, laidLooks := .later }
def CodeOpsCardSaid : Prop := Claim7.holds Tryd.pinned (.plain (OpenSpec.ofChange codeOpsSpec)) codeOpsCard

/-- THE TIED CARD OF 'wicketmanlaw16.CodeBack'. -/
def codeBackCard : Claim7 := { stood := { row := codeBackRow, standIns := [], harness := (true, "7c5e076b1be9538397972fc83c73593764824683042cf91751f902f23afa5d51"), looks := true }, kinds := [], alts := [], laidByText := true, laidKinds := [.data, .pinned], laidTests := true, laidLooks := .later }
def CodeBackCardSaid : Prop := Claim7.holds Tryd.pinned (.plain (OpenSpec.ofChange codeBackSpec)) codeBackCard

/-- THE TIED CARD OF 'wicketmanlaw16.CodeStates'. -/
def codeStatesCard : Claim7 := { stood := { row := codeStatesRow, standIns := [], harness := (true, "7c5e076b1be9538397972fc83c73593764824683042cf91751f902f23afa5d51"), looks := true }, kinds := [], alts := [], laidByText := true, laidKinds := [.data, .pinned], laidTests := true, laidLooks := .later }
def CodeStatesCardSaid : Prop := Claim7.holds Tryd.pinned (.plain (OpenSpec.ofChange codeStatesSpec)) codeStatesCard

/-- THE SECOND FORM's CARD OF 'wicketmanlaw16.CodeRight'. -/
def codeRightUptoCard : Claim7 := { stood := { row := codeRightUptoRow, standIns := [], harness := (true, "7c5e076b1be9538397972fc83c73593764824683042cf91751f902f23afa5d51"), looks := true }, kinds := [], alts := [], laidByText := true, laidKinds := [.data, .pinned], laidTests := true, laidLooks := .later }
def CodeRightUptoCardSaid : Prop := Claim7.holds Tryd.pinned (.plain (OpenSpec.upto codeRightSpec)) codeRightUptoCard

/-- THE SECOND FORM's CARD OF 'wicketmanlaw16.CodeSpoil'. -/
def codeSpoilUptoCard : Claim7 := { stood := { row := codeSpoilUptoRow, standIns := [], harness := (true, "7c5e076b1be9538397972fc83c73593764824683042cf91751f902f23afa5d51"), looks := true }, kinds := [], alts := [], laidByText := true, laidKinds := [.data, .pinned], laidTests := true, laidLooks := .later }
def CodeSpoilUptoCardSaid : Prop := Claim7.holds Tryd.pinned (.plain (OpenSpec.upto codeSpoilSpec)) codeSpoilUptoCard

/-- THE SECOND FORM's CARD OF 'wicketmanlaw16.CodeOps'. -/
def codeOpsUptoCard : Claim7 := { stood := { row := codeOpsUptoRow, standIns := [], harness := (true, "7c5e076b1be9538397972fc83c73593764824683042cf91751f902f23afa5d51"), looks := true }, kinds := [], alts := [], laidByText := true, laidKinds := [.data, .pinned], laidTests := true, laidLooks := .later }
def CodeOpsUptoCardSaid : Prop := Claim7.holds Tryd.pinned (.plain (OpenSpec.upto codeOpsSpec)) codeOpsUptoCard

/-- THE SECOND FORM's CARD OF 'wicketmanlaw16.CodeBack'. -/
def codeBackUptoCard : Claim7 := { stood := { row := codeBackUptoRow, standIns := [], harness := (true, "7c5e076b1be9538397972fc83c73593764824683042cf91751f902f23afa5d51"), looks := true }, kinds := [], alts := [], laidByText := true, laidKinds := [.data, .pinned], laidTests := true, laidLooks := .later }
def CodeBackUptoCardSaid : Prop := Claim7.holds Tryd.pinned (.plain (OpenSpec.upto codeBackSpec)) codeBackUptoCard

/-- THE SECOND FORM's CARD OF 'wicketmanlaw16.CodeStates'. -/
def codeStatesUptoCard : Claim7 := { stood := { row := codeStatesUptoRow, standIns := [], harness := (true, "7c5e076b1be9538397972fc83c73593764824683042cf91751f902f23afa5d51"), looks := true }, kinds := [], alts := [], laidByText := true, laidKinds := [.data, .pinned], laidTests := true, laidLooks := .later }
def CodeStatesUptoCardSaid : Prop := Claim7.holds Tryd.pinned (.plain (OpenSpec.upto codeStatesSpec)) codeStatesUptoCard
end Rows
end Go.Proofs.YtnlhomgclplnhaaDoor
