/-
  DERIVED. GIVEN WITH THE SEED: THE CARDS: each row of YtfmdpkilgnccfaaDoorRows.lean that lists a variable, with what it lists TIED to the program's text (the seventh form; the later family's looks); each row that meets fmt, with fmt's text TOLD by the authors' own Lean function (tested against real Go, not proved from fmt's source: count such statements apart). THE CARD IS WHAT COUNTS. Prove the row's statement (the work); the ties are given (YtfmdpkilgnccfaaDoorTie.lean); close each card by the builder's one call (the guide's Derived/Test/ToyasCard.lean, 'card_holds'). Laid BY PROGRAM, IN A SANDBOX (cutbox-door.mjs). By AI agents, Wed Nov 11 2026. No macro, syntax, notation, axiom, sorry.
-/
import Derived.Test.YtfmdpkilgnccfaaDoorRows
import GoSem.ClaimSeven
namespace Go.Proofs.YtfmdpkilgnccfaaDoor
namespace Rows

/-- THE TIED CARD OF 'wicketmanlaw02.ShaSums'. -/
def shaSumsCard : Claim7 := { stood := { row := shaSumsRow, standIns := [], harness := (true, "25391cfc7d9192450af75a2f53288692a0e687dc5230b853e8d44ada83a8758b"), looks := false }, kinds := [], alts := [], laidByText := true, laidKinds := [.data], laidTests := true, laidLooks := .later }
def ShaSumsCardSaid : Prop := Claim7.holds Tryd.pinned (.plain (OpenSpec.ofChange shaSumsSpec)) shaSumsCard

/-- THE TIED CARD OF 'wicketmanlaw02.ShaPieces'. -/
def shaPiecesCard : Claim7 := { stood := { row := shaPiecesRow, standIns := [], harness := (true, "25391cfc7d9192450af75a2f53288692a0e687dc5230b853e8d44ada83a8758b"), looks := false }, kinds := [], alts := [], laidByText := true, laidKinds := [.data], laidTests := true, laidLooks := .later }
def ShaPiecesCardSaid : Prop := Claim7.holds Tryd.pinned (.plain (OpenSpec.ofChange shaPiecesSpec)) shaPiecesCard

/-- THE TIED CARD OF 'wicketmanlaw02.ShaPads'. -/
def shaPadsCard : Claim7 := { stood := { row := shaPadsRow, standIns := [], harness := (true, "25391cfc7d9192450af75a2f53288692a0e687dc5230b853e8d44ada83a8758b"), looks := false }, kinds := [], alts := [], laidByText := true, laidKinds := [.data], laidTests := true, laidLooks := .later }
def ShaPadsCardSaid : Prop := Claim7.holds Tryd.pinned (.plain (OpenSpec.ofChange shaPadsSpec)) shaPadsCard

/-- THE TIED CARD OF 'wicketmanlaw02.ShaChain'. -/
def shaChainCard : Claim7 := { stood := { row := shaChainRow, standIns := [], harness := (true, "25391cfc7d9192450af75a2f53288692a0e687dc5230b853e8d44ada83a8758b"), looks := false }, kinds := [], alts := [], laidByText := true, laidKinds := [.data], laidTests := true, laidLooks := .later }
def ShaChainCardSaid : Prop := Claim7.holds Tryd.pinned (.plain (OpenSpec.ofChange shaChainSpec)) shaChainCard

/-- THE TIED CARD OF 'wicketmanlaw02.ShaWrong'. -/
def shaWrongCard : Claim7 := { stood := { row := shaWrongRow, standIns := [], harness := (true, "25391cfc7d9192450af75a2f53288692a0e687dc5230b853e8d44ada83a8758b"), looks := false }, kinds := [], alts := [], laidByText := true, laidKinds := [.data], laidTests := true, laidLooks := .later }
def ShaWrongCardSaid : Prop := Claim7.holds Tryd.pinned (.plain (OpenSpec.ofChange shaWrongSpec)) shaWrongCard

/-- THE TIED CARD OF 'wicketmanlaw02.ShaEmpty'. -/
def shaEmptyCard : Claim7 := { stood := { row := shaEmptyRow, standIns := [], harness := (true, "25391cfc7d9192450af75a2f53288692a0e687dc5230b853e8d44ada83a8758b"), looks := false }, kinds := [], alts := [], laidByText := true, laidKinds := [.data], laidTests := true, laidLooks := .later }
def ShaEmptyCardSaid : Prop := Claim7.holds Tryd.pinned (.plain (OpenSpec.ofChange shaEmptySpec)) shaEmptyCard

/-- THE TIED CARD OF 'wicketmanlaw03.MacIdeal'. -/
def macIdealCard : Claim7 := { stood := { row := macIdealRow, standIns := [], harness := (true, "25391cfc7d9192450af75a2f53288692a0e687dc5230b853e8d44ada83a8758b"), looks := false }, kinds := [], alts := [], laidByText := true, laidKinds := [.data], laidTests := true, laidLooks := .later }
def MacIdealCardSaid : Prop := Claim7.holds Tryd.pinned (.plain (OpenSpec.ofChange macIdealSpec)) macIdealCard

/-- THE TIED CARD OF 'wicketmanlaw03.MacKeys'. -/
def macKeysCard : Claim7 := { stood := { row := macKeysRow, standIns := [], harness := (true, "25391cfc7d9192450af75a2f53288692a0e687dc5230b853e8d44ada83a8758b"), looks := false }, kinds := [], alts := [], laidByText := true, laidKinds := [.data], laidTests := true, laidLooks := .later }
def MacKeysCardSaid : Prop := Claim7.holds Tryd.pinned (.plain (OpenSpec.ofChange macKeysSpec)) macKeysCard

/-- THE TIED CARD OF 'wicketmanlaw03.MacOrder'. -/
def macOrderCard : Claim7 := { stood := { row := macOrderRow, standIns := [], harness := (true, "25391cfc7d9192450af75a2f53288692a0e687dc5230b853e8d44ada83a8758b"), looks := false }, kinds := [], alts := [], laidByText := true, laidKinds := [.data], laidTests := true, laidLooks := .later }
def MacOrderCardSaid : Prop := Claim7.holds Tryd.pinned (.plain (OpenSpec.ofChange macOrderSpec)) macOrderCard

/-- THE TIED CARD OF 'wicketmanlaw04.KdfMore'. -/
def kdfMoreCard : Claim7 := { stood := { row := kdfMoreRow, standIns := [], harness := (true, "25391cfc7d9192450af75a2f53288692a0e687dc5230b853e8d44ada83a8758b"), looks := false }, kinds := [], alts := [], laidByText := true, laidKinds := [.data], laidTests := true, laidLooks := .later }
def KdfMoreCardSaid : Prop := Claim7.holds Tryd.pinned (.plain (OpenSpec.ofChange kdfMoreSpec)) kdfMoreCard

/-- THE TIED CARD OF 'wicketmanlaw03.MacSteps'. -/
def macStepsCard : Claim7 := { stood := { row := macStepsRow, standIns := [], harness := (true, "25391cfc7d9192450af75a2f53288692a0e687dc5230b853e8d44ada83a8758b"), looks := false }, kinds := [], alts := [], laidByText := true, laidKinds := [.data], laidTests := true, laidLooks := .later }
def MacStepsCardSaid : Prop := Claim7.holds Tryd.pinned (.plain (OpenSpec.ofChange macStepsSpec)) macStepsCard

/-- THE TIED CARD OF 'wicketmanlaw03.MacProves'. -/
def macProvesCard : Claim7 := { stood := { row := macProvesRow, standIns := [], harness := (true, "25391cfc7d9192450af75a2f53288692a0e687dc5230b853e8d44ada83a8758b"), looks := false }, kinds := [], alts := [], laidByText := true, laidKinds := [.data], laidTests := true, laidLooks := .later }
def MacProvesCardSaid : Prop := Claim7.holds Tryd.pinned (.plain (OpenSpec.ofChange macProvesSpec)) macProvesCard

/-- THE TIED CARD OF 'wicketmanlaw03.MacApart'. -/
def macApartCard : Claim7 := { stood := { row := macApartRow, standIns := [], harness := (true, "25391cfc7d9192450af75a2f53288692a0e687dc5230b853e8d44ada83a8758b"), looks := false }, kinds := [], alts := [], laidByText := true, laidKinds := [.data], laidTests := true, laidLooks := .later }
def MacApartCardSaid : Prop := Claim7.holds Tryd.pinned (.plain (OpenSpec.ofChange macApartSpec)) macApartCard

/-- THE TIED CARD OF 'wicketmanlaw03.MacCodes'. -/
def macCodesCard : Claim7 := { stood := { row := macCodesRow, standIns := [], harness := (true, "25391cfc7d9192450af75a2f53288692a0e687dc5230b853e8d44ada83a8758b"), looks := false }, kinds := [], alts := [], laidByText := true, laidKinds := [.data], laidTests := true, laidLooks := .later }
def MacCodesCardSaid : Prop := Claim7.holds Tryd.pinned (.plain (OpenSpec.ofChange macCodesSpec)) macCodesCard

/-- THE TIED CARD OF 'wicketmanlaw04.KdfHashes'. -/
def kdfHashesCard : Claim7 := { stood := { row := kdfHashesRow, standIns := [], harness := (true, "25391cfc7d9192450af75a2f53288692a0e687dc5230b853e8d44ada83a8758b"), looks := false }, kinds := [], alts := [], laidByText := true, laidKinds := [.data], laidTests := true, laidLooks := .later }
def KdfHashesCardSaid : Prop := Claim7.holds Tryd.pinned (.plain (OpenSpec.ofChange kdfHashesSpec)) kdfHashesCard

/-- THE TIED CARD OF 'wicketmanlaw04.KdfRounds'. -/
def kdfRoundsCard : Claim7 := { stood := { row := kdfRoundsRow, standIns := [], harness := (true, "25391cfc7d9192450af75a2f53288692a0e687dc5230b853e8d44ada83a8758b"), looks := false }, kinds := [], alts := [], laidByText := true, laidKinds := [.data], laidTests := true, laidLooks := .later }
def KdfRoundsCardSaid : Prop := Claim7.holds Tryd.pinned (.plain (OpenSpec.ofChange kdfRoundsSpec)) kdfRoundsCard

/-- THE TIED CARD OF 'wicketmanlaw04.KdfApart'. -/
def kdfApartCard : Claim7 := { stood := { row := kdfApartRow, standIns := [], harness := (true, "25391cfc7d9192450af75a2f53288692a0e687dc5230b853e8d44ada83a8758b"), looks := false }, kinds := [], alts := [], laidByText := true, laidKinds := [.data], laidTests := true, laidLooks := .later }
def KdfApartCardSaid : Prop := Claim7.holds Tryd.pinned (.plain (OpenSpec.ofChange kdfApartSpec)) kdfApartCard

/-- THE TIED CARD OF 'wicketmanlaw04.KdfSalts'. -/
def kdfSaltsCard : Claim7 := { stood := { row := kdfSaltsRow, standIns := [], harness := (true, "25391cfc7d9192450af75a2f53288692a0e687dc5230b853e8d44ada83a8758b"), looks := false }, kinds := [], alts := [], laidByText := true, laidKinds := [.data], laidTests := true, laidLooks := .later }
def KdfSaltsCardSaid : Prop := Claim7.holds Tryd.pinned (.plain (OpenSpec.ofChange kdfSaltsSpec)) kdfSaltsCard

/-- THE SECOND FORM's CARD OF 'wicketmanlaw02.ShaSums'. -/
def shaSumsUptoCard : Claim7 := { stood := { row := shaSumsUptoRow, standIns := [], harness := (true, "25391cfc7d9192450af75a2f53288692a0e687dc5230b853e8d44ada83a8758b"), looks := false }, kinds := [], alts := [], laidByText := true, laidKinds := [.data], laidTests := true, laidLooks := .later }
def ShaSumsUptoCardSaid : Prop := Claim7.holds Tryd.pinned (.plain (OpenSpec.upto shaSumsSpec)) shaSumsUptoCard

/-- THE SECOND FORM's CARD OF 'wicketmanlaw02.ShaPieces'. -/
def shaPiecesUptoCard : Claim7 := { stood := { row := shaPiecesUptoRow, standIns := [], harness := (true, "25391cfc7d9192450af75a2f53288692a0e687dc5230b853e8d44ada83a8758b"), looks := false }, kinds := [], alts := [], laidByText := true, laidKinds := [.data], laidTests := true, laidLooks := .later }
def ShaPiecesUptoCardSaid : Prop := Claim7.holds Tryd.pinned (.plain (OpenSpec.upto shaPiecesSpec)) shaPiecesUptoCard

/-- THE SECOND FORM's CARD OF 'wicketmanlaw02.ShaPads'. -/
def shaPadsUptoCard : Claim7 := { stood := { row := shaPadsUptoRow, standIns := [], harness := (true, "25391cfc7d9192450af75a2f53288692a0e687dc5230b853e8d44ada83a8758b"), looks := false }, kinds := [], alts := [], laidByText := true, laidKinds := [.data], laidTests := true, laidLooks := .later }
def ShaPadsUptoCardSaid : Prop := Claim7.holds Tryd.pinned (.plain (OpenSpec.upto shaPadsSpec)) shaPadsUptoCard

/-- THE SECOND FORM's CARD OF 'wicketmanlaw02.ShaChain'. -/
def shaChainUptoCard : Claim7 := { stood := { row := shaChainUptoRow, standIns := [], harness := (true, "25391cfc7d9192450af75a2f53288692a0e687dc5230b853e8d44ada83a8758b"), looks := false }, kinds := [], alts := [], laidByText := true, laidKinds := [.data], laidTests := true, laidLooks := .later }
def ShaChainUptoCardSaid : Prop := Claim7.holds Tryd.pinned (.plain (OpenSpec.upto shaChainSpec)) shaChainUptoCard

/-- THE SECOND FORM's CARD OF 'wicketmanlaw02.ShaWrong'. -/
def shaWrongUptoCard : Claim7 := { stood := { row := shaWrongUptoRow, standIns := [], harness := (true, "25391cfc7d9192450af75a2f53288692a0e687dc5230b853e8d44ada83a8758b"), looks := false }, kinds := [], alts := [], laidByText := true, laidKinds := [.data], laidTests := true, laidLooks := .later }
def ShaWrongUptoCardSaid : Prop := Claim7.holds Tryd.pinned (.plain (OpenSpec.upto shaWrongSpec)) shaWrongUptoCard

/-- THE SECOND FORM's CARD OF 'wicketmanlaw02.ShaEmpty'. -/
def shaEmptyUptoCard : Claim7 := { stood := { row := shaEmptyUptoRow, standIns := [], harness := (true, "25391cfc7d9192450af75a2f53288692a0e687dc5230b853e8d44ada83a8758b"), looks := false }, kinds := [], alts := [], laidByText := true, laidKinds := [.data], laidTests := true, laidLooks := .later }
def ShaEmptyUptoCardSaid : Prop := Claim7.holds Tryd.pinned (.plain (OpenSpec.upto shaEmptySpec)) shaEmptyUptoCard

/-- THE SECOND FORM's CARD OF 'wicketmanlaw03.MacIdeal'. -/
def macIdealUptoCard : Claim7 := { stood := { row := macIdealUptoRow, standIns := [], harness := (true, "25391cfc7d9192450af75a2f53288692a0e687dc5230b853e8d44ada83a8758b"), looks := false }, kinds := [], alts := [], laidByText := true, laidKinds := [.data], laidTests := true, laidLooks := .later }
def MacIdealUptoCardSaid : Prop := Claim7.holds Tryd.pinned (.plain (OpenSpec.upto macIdealSpec)) macIdealUptoCard

/-- THE SECOND FORM's CARD OF 'wicketmanlaw03.MacKeys'. -/
def macKeysUptoCard : Claim7 := { stood := { row := macKeysUptoRow, standIns := [], harness := (true, "25391cfc7d9192450af75a2f53288692a0e687dc5230b853e8d44ada83a8758b"), looks := false }, kinds := [], alts := [], laidByText := true, laidKinds := [.data], laidTests := true, laidLooks := .later }
def MacKeysUptoCardSaid : Prop := Claim7.holds Tryd.pinned (.plain (OpenSpec.upto macKeysSpec)) macKeysUptoCard

/-- THE SECOND FORM's CARD OF 'wicketmanlaw03.MacOrder'. -/
def macOrderUptoCard : Claim7 := { stood := { row := macOrderUptoRow, standIns := [], harness := (true, "25391cfc7d9192450af75a2f53288692a0e687dc5230b853e8d44ada83a8758b"), looks := false }, kinds := [], alts := [], laidByText := true, laidKinds := [.data], laidTests := true, laidLooks := .later }
def MacOrderUptoCardSaid : Prop := Claim7.holds Tryd.pinned (.plain (OpenSpec.upto macOrderSpec)) macOrderUptoCard

/-- THE SECOND FORM's CARD OF 'wicketmanlaw04.KdfMore'. -/
def kdfMoreUptoCard : Claim7 := { stood := { row := kdfMoreUptoRow, standIns := [], harness := (true, "25391cfc7d9192450af75a2f53288692a0e687dc5230b853e8d44ada83a8758b"), looks := false }, kinds := [], alts := [], laidByText := true, laidKinds := [.data], laidTests := true, laidLooks := .later }
def KdfMoreUptoCardSaid : Prop := Claim7.holds Tryd.pinned (.plain (OpenSpec.upto kdfMoreSpec)) kdfMoreUptoCard

/-- THE SECOND FORM's CARD OF 'wicketmanlaw03.MacSteps'. -/
def macStepsUptoCard : Claim7 := { stood := { row := macStepsUptoRow, standIns := [], harness := (true, "25391cfc7d9192450af75a2f53288692a0e687dc5230b853e8d44ada83a8758b"), looks := false }, kinds := [], alts := [], laidByText := true, laidKinds := [.data], laidTests := true, laidLooks := .later }
def MacStepsUptoCardSaid : Prop := Claim7.holds Tryd.pinned (.plain (OpenSpec.upto macStepsSpec)) macStepsUptoCard

/-- THE SECOND FORM's CARD OF 'wicketmanlaw03.MacProves'. -/
def macProvesUptoCard : Claim7 := { stood := { row := macProvesUptoRow, standIns := [], harness := (true, "25391cfc7d9192450af75a2f53288692a0e687dc5230b853e8d44ada83a8758b"), looks := false }, kinds := [], alts := [], laidByText := true, laidKinds := [.data], laidTests := true, laidLooks := .later }
def MacProvesUptoCardSaid : Prop := Claim7.holds Tryd.pinned (.plain (OpenSpec.upto macProvesSpec)) macProvesUptoCard

/-- THE SECOND FORM's CARD OF 'wicketmanlaw03.MacApart'. -/
def macApartUptoCard : Claim7 := { stood := { row := macApartUptoRow, standIns := [], harness := (true, "25391cfc7d9192450af75a2f53288692a0e687dc5230b853e8d44ada83a8758b"), looks := false }, kinds := [], alts := [], laidByText := true, laidKinds := [.data], laidTests := true, laidLooks := .later }
def MacApartUptoCardSaid : Prop := Claim7.holds Tryd.pinned (.plain (OpenSpec.upto macApartSpec)) macApartUptoCard

/-- THE SECOND FORM's CARD OF 'wicketmanlaw03.MacCodes'. -/
def macCodesUptoCard : Claim7 := { stood := { row := macCodesUptoRow, standIns := [], harness := (true, "25391cfc7d9192450af75a2f53288692a0e687dc5230b853e8d44ada83a8758b"), looks := false }, kinds := [], alts := [], laidByText := true, laidKinds := [.data], laidTests := true, laidLooks := .later }
def MacCodesUptoCardSaid : Prop := Claim7.holds Tryd.pinned (.plain (OpenSpec.upto macCodesSpec)) macCodesUptoCard

/-- THE SECOND FORM's CARD OF 'wicketmanlaw04.KdfHashes'. -/
def kdfHashesUptoCard : Claim7 := { stood := { row := kdfHashesUptoRow, standIns := [], harness := (true, "25391cfc7d9192450af75a2f53288692a0e687dc5230b853e8d44ada83a8758b"), looks := false }, kinds := [], alts := [], laidByText := true, laidKinds := [.data], laidTests := true, laidLooks := .later }
def KdfHashesUptoCardSaid : Prop := Claim7.holds Tryd.pinned (.plain (OpenSpec.upto kdfHashesSpec)) kdfHashesUptoCard

/-- THE SECOND FORM's CARD OF 'wicketmanlaw04.KdfRounds'. -/
def kdfRoundsUptoCard : Claim7 := { stood := { row := kdfRoundsUptoRow, standIns := [], harness := (true, "25391cfc7d9192450af75a2f53288692a0e687dc5230b853e8d44ada83a8758b"), looks := false }, kinds := [], alts := [], laidByText := true, laidKinds := [.data], laidTests := true, laidLooks := .later }
def KdfRoundsUptoCardSaid : Prop := Claim7.holds Tryd.pinned (.plain (OpenSpec.upto kdfRoundsSpec)) kdfRoundsUptoCard

/-- THE SECOND FORM's CARD OF 'wicketmanlaw04.KdfApart'. -/
def kdfApartUptoCard : Claim7 := { stood := { row := kdfApartUptoRow, standIns := [], harness := (true, "25391cfc7d9192450af75a2f53288692a0e687dc5230b853e8d44ada83a8758b"), looks := false }, kinds := [], alts := [], laidByText := true, laidKinds := [.data], laidTests := true, laidLooks := .later }
def KdfApartUptoCardSaid : Prop := Claim7.holds Tryd.pinned (.plain (OpenSpec.upto kdfApartSpec)) kdfApartUptoCard

/-- THE SECOND FORM's CARD OF 'wicketmanlaw04.KdfSalts'. -/
def kdfSaltsUptoCard : Claim7 := { stood := { row := kdfSaltsUptoRow, standIns := [], harness := (true, "25391cfc7d9192450af75a2f53288692a0e687dc5230b853e8d44ada83a8758b"), looks := false }, kinds := [], alts := [], laidByText := true, laidKinds := [.data], laidTests := true, laidLooks := .later }
def KdfSaltsUptoCardSaid : Prop := Claim7.holds Tryd.pinned (.plain (OpenSpec.upto kdfSaltsSpec)) kdfSaltsUptoCard
end Rows
end Go.Proofs.YtfmdpkilgnccfaaDoor
