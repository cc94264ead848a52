/-
  DERIVED. GIVEN WITH THE SEED: THE CARDS: each row of YteicjmippeobpaaDoorRows.lean that lists a variable, with what it lists TIED to the program's text (the seventh form; the later family's looks); each row that meets fmt, with fmt's text TOLD by the authors' own Lean function (tested against real Go, not proved from fmt's source: count such statements apart). THE CARD IS WHAT COUNTS. Prove the row's statement (the work); the ties are given (YteicjmippeobpaaDoorTie.lean); close each card by the builder's one call (the guide's Derived/Test/ToyasCard.lean, 'card_holds'). Laid BY PROGRAM, IN A SANDBOX (cutbox-door.mjs). By AI agents, Wed Nov 11 2026. No macro, syntax, notation, axiom, sorry.
-/
import Derived.Test.YteicjmippeobpaaDoorRows
import GoSem.ClaimSeven
namespace Go.Proofs.YteicjmippeobpaaDoor
namespace Rows

/-- THE TIED CARD OF 'becklaw01.ScanPieces'. -/
def scanPiecesCard : Claim7 := { stood := { row := scanPiecesRow, standIns := [], harness := (true, "97d91844d0cf7669a7d2c7713533dea33a85512d2a00f41a364f96e4ec89e405"), looks := false }, kinds := [], alts := [], laidByText := true, laidKinds := [.widerDeep], laidTests := true, laidLooks := .later }
def ScanPiecesCardSaid : Prop := Claim7.holds Tryd.pinned (.plain (OpenSpec.ofChange scanPiecesSpec)) scanPiecesCard

/-- THE TIED CARD OF 'becklaw01.ScanUnlike'. -/
def scanUnlikeCard : Claim7 := { stood := { row := scanUnlikeRow, standIns := [], harness := (true, "97d91844d0cf7669a7d2c7713533dea33a85512d2a00f41a364f96e4ec89e405"), looks := false }, kinds := [], alts := [], laidByText := true, laidKinds := [.widerDeep], laidTests := true, laidLooks := .later }
def ScanUnlikeCardSaid : Prop := Claim7.holds Tryd.pinned (.plain (OpenSpec.ofChange scanUnlikeSpec)) scanUnlikeCard

/-- THE TIED CARD OF 'becklaw01.ScanClasses'. -/
def scanClassesCard : Claim7 := { stood := { row := scanClassesRow, standIns := [], harness := (true, "97d91844d0cf7669a7d2c7713533dea33a85512d2a00f41a364f96e4ec89e405"), looks := false }, kinds := [], alts := [], laidByText := true, laidKinds := [.widerDeep], laidTests := true, laidLooks := .later }
def ScanClassesCardSaid : Prop := Claim7.holds Tryd.pinned (.plain (OpenSpec.ofChange scanClassesSpec)) scanClassesCard

/-- THE TIED CARD OF 'becklaw01.ScanJoins'. -/
def scanJoinsCard : Claim7 := { stood := { row := scanJoinsRow, standIns := [], harness := (true, "97d91844d0cf7669a7d2c7713533dea33a85512d2a00f41a364f96e4ec89e405"), looks := false }, kinds := [], alts := [], laidByText := true, laidKinds := [.widerDeep], laidTests := true, laidLooks := .later }
def ScanJoinsCardSaid : Prop := Claim7.holds Tryd.pinned (.plain (OpenSpec.ofChange scanJoinsSpec)) scanJoinsCard

/-- THE TIED CARD OF 'becklaw01.ScanTexts'. -/
def scanTextsCard : Claim7 := { stood := { row := scanTextsRow, standIns := [], harness := (true, "97d91844d0cf7669a7d2c7713533dea33a85512d2a00f41a364f96e4ec89e405"), looks := false }, kinds := [], alts := [], laidByText := true, laidKinds := [.widerDeep], laidTests := true, laidLooks := .later }
def ScanTextsCardSaid : Prop := Claim7.holds Tryd.pinned (.plain (OpenSpec.ofChange scanTextsSpec)) scanTextsCard

/-- THE TIED CARD OF 'becklaw01.ScanAgain'. -/
def scanAgainCard : Claim7 := { stood := { row := scanAgainRow, standIns := [], harness := (true, "97d91844d0cf7669a7d2c7713533dea33a85512d2a00f41a364f96e4ec89e405"), looks := false }, kinds := [], alts := [], laidByText := true, laidKinds := [.widerDeep], laidTests := true, laidLooks := .later }
def ScanAgainCardSaid : Prop := Claim7.holds Tryd.pinned (.plain (OpenSpec.ofChange scanAgainSpec)) scanAgainCard

/-- THE TIED CARD OF 'becklaw01.ScanUntils'. -/
def scanUntilsCard : Claim7 := { stood := { row := scanUntilsRow, standIns := [], harness := (true, "97d91844d0cf7669a7d2c7713533dea33a85512d2a00f41a364f96e4ec89e405"), looks := false }, kinds := [], alts := [], laidByText := true, laidKinds := [.widerDeep], laidTests := true, laidLooks := .later }
def ScanUntilsCardSaid : Prop := Claim7.holds Tryd.pinned (.plain (OpenSpec.ofChange scanUntilsSpec)) scanUntilsCard

/-- THE TIED CARD OF 'becklaw01.ScanPlays'. -/
def scanPlaysCard : Claim7 := { stood := { row := scanPlaysRow, standIns := [], harness := (true, "97d91844d0cf7669a7d2c7713533dea33a85512d2a00f41a364f96e4ec89e405"), looks := false }, kinds := [], alts := [], laidByText := true, laidKinds := [.widerDeep], laidTests := true, laidLooks := .later }
def ScanPlaysCardSaid : Prop := Claim7.holds Tryd.pinned (.plain (OpenSpec.ofChange scanPlaysSpec)) scanPlaysCard

/-- THE TIED CARD OF 'becklaw01.ScanReads'. -/
def scanReadsCard : Claim7 := { stood := { row := scanReadsRow, standIns := [], harness := (true, "97d91844d0cf7669a7d2c7713533dea33a85512d2a00f41a364f96e4ec89e405"), looks := false }, kinds := [], alts := [], laidByText := true, laidKinds := [.widerDeep], laidTests := true, laidLooks := .later }
def ScanReadsCardSaid : Prop := Claim7.holds Tryd.pinned (.plain (OpenSpec.ofChange scanReadsSpec)) scanReadsCard

/-- THE TIED CARD OF 'becklaw01.ScanQuotes'. -/
def scanQuotesCard : Claim7 := { stood := { row := scanQuotesRow, standIns := [], harness := (true, "97d91844d0cf7669a7d2c7713533dea33a85512d2a00f41a364f96e4ec89e405"), looks := false }, kinds := [], alts := [], laidByText := true, laidKinds := [.widerDeep], laidTests := true, laidLooks := .later }
def ScanQuotesCardSaid : Prop := Claim7.holds Tryd.pinned (.plain (OpenSpec.ofChange scanQuotesSpec)) scanQuotesCard

/-- THE SECOND FORM's CARD OF 'becklaw01.ScanPieces'. -/
def scanPiecesUptoCard : Claim7 := { stood := { row := scanPiecesUptoRow, standIns := [], harness := (true, "97d91844d0cf7669a7d2c7713533dea33a85512d2a00f41a364f96e4ec89e405"), looks := false }, kinds := [], alts := [], laidByText := true, laidKinds := [.widerDeep], laidTests := true, laidLooks := .later }
def ScanPiecesUptoCardSaid : Prop := Claim7.holds Tryd.pinned (.plain (OpenSpec.upto scanPiecesSpec)) scanPiecesUptoCard

/-- THE SECOND FORM's CARD OF 'becklaw01.ScanUnlike'. -/
def scanUnlikeUptoCard : Claim7 := { stood := { row := scanUnlikeUptoRow, standIns := [], harness := (true, "97d91844d0cf7669a7d2c7713533dea33a85512d2a00f41a364f96e4ec89e405"), looks := false }, kinds := [], alts := [], laidByText := true, laidKinds := [.widerDeep], laidTests := true, laidLooks := .later }
def ScanUnlikeUptoCardSaid : Prop := Claim7.holds Tryd.pinned (.plain (OpenSpec.upto scanUnlikeSpec)) scanUnlikeUptoCard

/-- THE SECOND FORM's CARD OF 'becklaw01.ScanClasses'. -/
def scanClassesUptoCard : Claim7 := { stood := { row := scanClassesUptoRow, standIns := [], harness := (true, "97d91844d0cf7669a7d2c7713533dea33a85512d2a00f41a364f96e4ec89e405"), looks := false }, kinds := [], alts := [], laidByText := true, laidKinds := [.widerDeep], laidTests := true, laidLooks := .later }
def ScanClassesUptoCardSaid : Prop := Claim7.holds Tryd.pinned (.plain (OpenSpec.upto scanClassesSpec)) scanClassesUptoCard

/-- THE SECOND FORM's CARD OF 'becklaw01.ScanJoins'. -/
def scanJoinsUptoCard : Claim7 := { stood := { row := scanJoinsUptoRow, standIns := [], harness := (true, "97d91844d0cf7669a7d2c7713533dea33a85512d2a00f41a364f96e4ec89e405"), looks := false }, kinds := [], alts := [], laidByText := true, laidKinds := [.widerDeep], laidTests := true, laidLooks := .later }
def ScanJoinsUptoCardSaid : Prop := Claim7.holds Tryd.pinned (.plain (OpenSpec.upto scanJoinsSpec)) scanJoinsUptoCard

/-- THE SECOND FORM's CARD OF 'becklaw01.ScanTexts'. -/
def scanTextsUptoCard : Claim7 := { stood := { row := scanTextsUptoRow, standIns := [], harness := (true, "97d91844d0cf7669a7d2c7713533dea33a85512d2a00f41a364f96e4ec89e405"), looks := false }, kinds := [], alts := [], laidByText := true, laidKinds := [.widerDeep], laidTests := true, laidLooks := .later }
def ScanTextsUptoCardSaid : Prop := Claim7.holds Tryd.pinned (.plain (OpenSpec.upto scanTextsSpec)) scanTextsUptoCard

/-- THE SECOND FORM's CARD OF 'becklaw01.ScanAgain'. -/
def scanAgainUptoCard : Claim7 := { stood := { row := scanAgainUptoRow, standIns := [], harness := (true, "97d91844d0cf7669a7d2c7713533dea33a85512d2a00f41a364f96e4ec89e405"), looks := false }, kinds := [], alts := [], laidByText := true, laidKinds := [.widerDeep], laidTests := true, laidLooks := .later }
def ScanAgainUptoCardSaid : Prop := Claim7.holds Tryd.pinned (.plain (OpenSpec.upto scanAgainSpec)) scanAgainUptoCard

/-- THE SECOND FORM's CARD OF 'becklaw01.ScanUntils'. -/
def scanUntilsUptoCard : Claim7 := { stood := { row := scanUntilsUptoRow, standIns := [], harness := (true, "97d91844d0cf7669a7d2c7713533dea33a85512d2a00f41a364f96e4ec89e405"), looks := false }, kinds := [], alts := [], laidByText := true, laidKinds := [.widerDeep], laidTests := true, laidLooks := .later }
def ScanUntilsUptoCardSaid : Prop := Claim7.holds Tryd.pinned (.plain (OpenSpec.upto scanUntilsSpec)) scanUntilsUptoCard

/-- THE SECOND FORM's CARD OF 'becklaw01.ScanPlays'. -/
def scanPlaysUptoCard : Claim7 := { stood := { row := scanPlaysUptoRow, standIns := [], harness := (true, "97d91844d0cf7669a7d2c7713533dea33a85512d2a00f41a364f96e4ec89e405"), looks := false }, kinds := [], alts := [], laidByText := true, laidKinds := [.widerDeep], laidTests := true, laidLooks := .later }
def ScanPlaysUptoCardSaid : Prop := Claim7.holds Tryd.pinned (.plain (OpenSpec.upto scanPlaysSpec)) scanPlaysUptoCard

/-- THE SECOND FORM's CARD OF 'becklaw01.ScanReads'. -/
def scanReadsUptoCard : Claim7 := { stood := { row := scanReadsUptoRow, standIns := [], harness := (true, "97d91844d0cf7669a7d2c7713533dea33a85512d2a00f41a364f96e4ec89e405"), looks := false }, kinds := [], alts := [], laidByText := true, laidKinds := [.widerDeep], laidTests := true, laidLooks := .later }
def ScanReadsUptoCardSaid : Prop := Claim7.holds Tryd.pinned (.plain (OpenSpec.upto scanReadsSpec)) scanReadsUptoCard

/-- THE SECOND FORM's CARD OF 'becklaw01.ScanQuotes'. -/
def scanQuotesUptoCard : Claim7 := { stood := { row := scanQuotesUptoRow, standIns := [], harness := (true, "97d91844d0cf7669a7d2c7713533dea33a85512d2a00f41a364f96e4ec89e405"), looks := false }, kinds := [], alts := [], laidByText := true, laidKinds := [.widerDeep], laidTests := true, laidLooks := .later }
def ScanQuotesUptoCardSaid : Prop := Claim7.holds Tryd.pinned (.plain (OpenSpec.upto scanQuotesSpec)) scanQuotesUptoCard
end Rows
end Go.Proofs.YteicjmippeobpaaDoor
