/-
  DERIVED. GIVEN WITH THE SEED: THE CARDS: each row of YteeajhnbifpklaaDoorRows.lean that lists a variable, with what it lists TIED to the program's text (the seventh form; the later family's looks); each row that meets fmt, with fmt's text TOLD by the authors' own Lean function (tested against real Go, not proved from fmt's source: count such statements apart). THE CARD IS WHAT COUNTS. Prove the row's statement (the work); the ties are given (YteeajhnbifpklaaDoorTie.lean); close each card by the builder's one call (the guide's Derived/Test/ToyasCard.lean, 'card_holds'). Laid BY PROGRAM, IN A SANDBOX (cutbox-door.mjs). By AI agents, Wed Nov 11 2026. No macro, syntax, notation, axiom, sorry.
-/
import Derived.Test.YteeajhnbifpklaaDoorRows
import GoSem.ClaimSeven
namespace Go.Proofs.YteeajhnbifpklaaDoor
namespace Rows

/-- THE TIED CARD OF 'becklaw03.TermEquals'. -/
def termEqualsCard : Claim7 := { stood := { row := termEqualsRow, standIns := [], harness := (true, "cfa42d53004fe6b6c668ea47cb6d5652cd4d10b782cbdf6c1651776d8d549d56"), looks := true }, kinds := [], alts := [], laidByText := true, laidKinds := [.data, .data, .data, .sentinel, .sentinel], laidTests := true, laidLooks := .later }
def TermEqualsCardSaid : Prop := Claim7.holds Tryd.pinned (.plain (OpenSpec.ofChange termEqualsSpec)) termEqualsCard

/-- THE TIED CARD OF 'becklaw03.TermMust'. -/
def termMustCard : Claim7 := { stood := { row := termMustRow, standIns := [], harness := (true, "cfa42d53004fe6b6c668ea47cb6d5652cd4d10b782cbdf6c1651776d8d549d56"), looks := true }, kinds := [], alts := [], laidByText := true, laidKinds := [.data, .data, .data, .sentinel, .sentinel], laidTests := true, laidLooks := .later }
def TermMustCardSaid : Prop := Claim7.holds Tryd.pinned (.plain (OpenSpec.ofChange termMustSpec)) termMustCard

/-- THE TIED CARD OF 'becklaw03.TermMakes'. -/
def termMakesCard : Claim7 := { stood := { row := termMakesRow, standIns := [], harness := (true, "cfa42d53004fe6b6c668ea47cb6d5652cd4d10b782cbdf6c1651776d8d549d56"), looks := true }, kinds := [], alts := [], laidByText := true, laidKinds := [.data, .data, .data, .data, .sentinel, .sentinel, .pinned], laidTests := true, laidLooks := .later }
def TermMakesCardSaid : Prop := Claim7.holds Tryd.pinned (.plain (OpenSpec.ofChange termMakesSpec)) termMakesCard

/-- THE TIED CARD OF 'becklaw03.TermPlains'. -/
def termPlainsCard : Claim7 := { stood := { row := termPlainsRow, standIns := [], harness := (true, "cfa42d53004fe6b6c668ea47cb6d5652cd4d10b782cbdf6c1651776d8d549d56"), looks := true }, kinds := [], alts := [], laidByText := true, laidKinds := [.data, .data, .data, .sentinel, .sentinel], laidTests := true, laidLooks := .later }
def TermPlainsCardSaid : Prop := Claim7.holds Tryd.pinned (.plain (OpenSpec.ofChange termPlainsSpec)) termPlainsCard

/-- THE TIED CARD OF 'becklaw03.TermInts'. -/
def termIntsCard : Claim7 := { stood := { row := termIntsRow, standIns := [], harness := (true, "cfa42d53004fe6b6c668ea47cb6d5652cd4d10b782cbdf6c1651776d8d549d56"), looks := true }, kinds := [], alts := [], laidByText := true, laidKinds := [.data, .data, .data, .sentinel, .sentinel], laidTests := true, laidLooks := .later }
def TermIntsCardSaid : Prop := Claim7.holds Tryd.pinned (.plain (OpenSpec.ofChange termIntsSpec)) termIntsCard

/-- THE TIED CARD OF 'becklaw03.TermOrders'. -/
def termOrdersCard : Claim7 := { stood := { row := termOrdersRow, standIns := [], harness := (true, "cfa42d53004fe6b6c668ea47cb6d5652cd4d10b782cbdf6c1651776d8d549d56"), looks := true }, kinds := [], alts := [], laidByText := true, laidKinds := [.data, .data, .data, .sentinel, .sentinel], laidTests := true, laidLooks := .later }
def TermOrdersCardSaid : Prop := Claim7.holds Tryd.pinned (.plain (OpenSpec.ofChange termOrdersSpec)) termOrdersCard

/-- THE TIED CARD OF 'becklaw03.TermKinds'. -/
def termKindsCard : Claim7 := { stood := { row := termKindsRow, standIns := [], harness := (true, "cfa42d53004fe6b6c668ea47cb6d5652cd4d10b782cbdf6c1651776d8d549d56"), looks := true }, kinds := [], alts := [], laidByText := true, laidKinds := [.data, .data, .data, .sentinel, .sentinel], laidTests := true, laidLooks := .later }
def TermKindsCardSaid : Prop := Claim7.holds Tryd.pinned (.plain (OpenSpec.ofChange termKindsSpec)) termKindsCard

/-- THE SECOND FORM's CARD OF 'becklaw03.TermEquals'. -/
def termEqualsUptoCard : Claim7 := { stood := { row := termEqualsUptoRow, standIns := [], harness := (true, "cfa42d53004fe6b6c668ea47cb6d5652cd4d10b782cbdf6c1651776d8d549d56"), looks := true }, kinds := [], alts := [], laidByText := true, laidKinds := [.data, .data, .data, .sentinel, .sentinel], laidTests := true, laidLooks := .later }
def TermEqualsUptoCardSaid : Prop := Claim7.holds Tryd.pinned (.plain (OpenSpec.upto termEqualsSpec)) termEqualsUptoCard

/-- THE SECOND FORM's CARD OF 'becklaw03.TermMust'. -/
def termMustUptoCard : Claim7 := { stood := { row := termMustUptoRow, standIns := [], harness := (true, "cfa42d53004fe6b6c668ea47cb6d5652cd4d10b782cbdf6c1651776d8d549d56"), looks := true }, kinds := [], alts := [], laidByText := true, laidKinds := [.data, .data, .data, .sentinel, .sentinel], laidTests := true, laidLooks := .later }
def TermMustUptoCardSaid : Prop := Claim7.holds Tryd.pinned (.plain (OpenSpec.upto termMustSpec)) termMustUptoCard

/-- THE SECOND FORM's CARD OF 'becklaw03.TermMakes'. -/
def termMakesUptoCard : Claim7 := { stood := { row := termMakesUptoRow, standIns := [], harness := (true, "cfa42d53004fe6b6c668ea47cb6d5652cd4d10b782cbdf6c1651776d8d549d56"), looks := true }, kinds := [], alts := [], laidByText := true, laidKinds := [.data, .data, .data, .data, .sentinel, .sentinel, .pinned], laidTests := true, laidLooks := .later }
def TermMakesUptoCardSaid : Prop := Claim7.holds Tryd.pinned (.plain (OpenSpec.upto termMakesSpec)) termMakesUptoCard

/-- THE SECOND FORM's CARD OF 'becklaw03.TermPlains'. -/
def termPlainsUptoCard : Claim7 := { stood := { row := termPlainsUptoRow, standIns := [], harness := (true, "cfa42d53004fe6b6c668ea47cb6d5652cd4d10b782cbdf6c1651776d8d549d56"), looks := true }, kinds := [], alts := [], laidByText := true, laidKinds := [.data, .data, .data, .sentinel, .sentinel], laidTests := true, laidLooks := .later }
def TermPlainsUptoCardSaid : Prop := Claim7.holds Tryd.pinned (.plain (OpenSpec.upto termPlainsSpec)) termPlainsUptoCard

/-- THE SECOND FORM's CARD OF 'becklaw03.TermInts'. -/
def termIntsUptoCard : Claim7 := { stood := { row := termIntsUptoRow, standIns := [], harness := (true, "cfa42d53004fe6b6c668ea47cb6d5652cd4d10b782cbdf6c1651776d8d549d56"), looks := true }, kinds := [], alts := [], laidByText := true, laidKinds := [.data, .data, .data, .sentinel, .sentinel], laidTests := true, laidLooks := .later }
def TermIntsUptoCardSaid : Prop := Claim7.holds Tryd.pinned (.plain (OpenSpec.upto termIntsSpec)) termIntsUptoCard

/-- THE SECOND FORM's CARD OF 'becklaw03.TermOrders'. -/
def termOrdersUptoCard : Claim7 := { stood := { row := termOrdersUptoRow, standIns := [], harness := (true, "cfa42d53004fe6b6c668ea47cb6d5652cd4d10b782cbdf6c1651776d8d549d56"), looks := true }, kinds := [], alts := [], laidByText := true, laidKinds := [.data, .data, .data, .sentinel, .sentinel], laidTests := true, laidLooks := .later }
def TermOrdersUptoCardSaid : Prop := Claim7.holds Tryd.pinned (.plain (OpenSpec.upto termOrdersSpec)) termOrdersUptoCard

/-- THE SECOND FORM's CARD OF 'becklaw03.TermKinds'. -/
def termKindsUptoCard : Claim7 := { stood := { row := termKindsUptoRow, standIns := [], harness := (true, "cfa42d53004fe6b6c668ea47cb6d5652cd4d10b782cbdf6c1651776d8d549d56"), looks := true }, kinds := [], alts := [], laidByText := true, laidKinds := [.data, .data, .data, .sentinel, .sentinel], laidTests := true, laidLooks := .later }
def TermKindsUptoCardSaid : Prop := Claim7.holds Tryd.pinned (.plain (OpenSpec.upto termKindsSpec)) termKindsUptoCard
end Rows
end Go.Proofs.YteeajhnbifpklaaDoor
