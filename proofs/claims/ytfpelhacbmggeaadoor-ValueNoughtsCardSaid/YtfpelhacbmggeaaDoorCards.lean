/-
  DERIVED. GIVEN WITH THE SEED: THE CARDS: each row of YtfpelhacbmggeaaDoorRows.lean that lists a variable, with what it lists TIED to the program's text (the seventh form; the later family's looks); each row that meets fmt, with fmt's text TOLD by the authors' own Lean function (tested against real Go, not proved from fmt's source: count such statements apart). THE CARD IS WHAT COUNTS. Prove the row's statement (the work); the ties are given (YtfpelhacbmggeaaDoorTie.lean); close each card by the builder's one call (the guide's Derived/Test/ToyasCard.lean, 'card_holds'). Laid BY PROGRAM, IN A SANDBOX (cutbox-door.mjs). By AI agents, Wed Nov 11 2026. No macro, syntax, notation, axiom, sorry.
-/
import Derived.Test.YtfpelhacbmggeaaDoorRows
import GoSem.ClaimSeven
namespace Go.Proofs.YtfpelhacbmggeaaDoor
namespace Rows

/-- THE TIED CARD OF 'becklaw02.ValueTexts'. -/
def valueTextsCard : Claim7 := { stood := { row := valueTextsRow, standIns := [], harness := (true, "42a4ec6f9c526aa2fdbb5fb19c2ddeec8fc89d661606cf78072591218b614ef7"), looks := true }, kinds := [], alts := [], laidByText := true, laidKinds := [.data, .data, .data, .sentinel, .sentinel], laidTests := true, laidLooks := .later }
def ValueTextsCardSaid : Prop := Claim7.holds Tryd.pinned (.plain (OpenSpec.ofChange valueTextsSpec)) valueTextsCard

/-- THE TIED CARD OF 'becklaw02.ValueNoughts'. -/
def valueNoughtsCard : Claim7 := { stood := { row := valueNoughtsRow, standIns := [], harness := (true, "42a4ec6f9c526aa2fdbb5fb19c2ddeec8fc89d661606cf78072591218b614ef7"), looks := true }, kinds := [], alts := [], laidByText := true, laidKinds := [.data, .data, .data, .sentinel, .sentinel], laidTests := true, laidLooks := .later }
def ValueNoughtsCardSaid : Prop := Claim7.holds Tryd.pinned (.plain (OpenSpec.ofChange valueNoughtsSpec)) valueNoughtsCard

/-- THE SECOND FORM's CARD OF 'becklaw02.ValueTexts'. -/
def valueTextsUptoCard : Claim7 := { stood := { row := valueTextsUptoRow, standIns := [], harness := (true, "42a4ec6f9c526aa2fdbb5fb19c2ddeec8fc89d661606cf78072591218b614ef7"), looks := true }, kinds := [], alts := [], laidByText := true, laidKinds := [.data, .data, .data, .sentinel, .sentinel], laidTests := true, laidLooks := .later }
def ValueTextsUptoCardSaid : Prop := Claim7.holds Tryd.pinned (.plain (OpenSpec.upto valueTextsSpec)) valueTextsUptoCard

/-- THE SECOND FORM's CARD OF 'becklaw02.ValueNoughts'. -/
def valueNoughtsUptoCard : Claim7 := { stood := { row := valueNoughtsUptoRow, standIns := [], harness := (true, "42a4ec6f9c526aa2fdbb5fb19c2ddeec8fc89d661606cf78072591218b614ef7"), looks := true }, kinds := [], alts := [], laidByText := true, laidKinds := [.data, .data, .data, .sentinel, .sentinel], laidTests := true, laidLooks := .later }
def ValueNoughtsUptoCardSaid : Prop := Claim7.holds Tryd.pinned (.plain (OpenSpec.upto valueNoughtsSpec)) valueNoughtsUptoCard
end Rows
end Go.Proofs.YtfpelhacbmggeaaDoor
