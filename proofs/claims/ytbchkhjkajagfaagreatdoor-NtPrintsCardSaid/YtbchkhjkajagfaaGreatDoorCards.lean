/-
  DERIVED. GIVEN WITH THE SEED: THE CARDS: each row of YtbchkhjkajagfaaGreatDoorRows.lean that lists a variable, with what it lists TIED to the program's text (the seventh form; the later family's looks); each row that meets fmt, with fmt's text TOLD by the authors' own Lean function (tested against real Go, not proved from fmt's source: count such statements apart). THE CARD IS WHAT COUNTS. Prove the row's statement (the work); the ties are given (YtbchkhjkajagfaaGreatDoorTie.lean); close each card by the builder's one call (the guide's Derived/Test/ToyasCard.lean, 'card_holds'). Laid BY PROGRAM, IN A SANDBOX (cutbox-door.mjs). By AI agents, Wed Nov 11 2026. No macro, syntax, notation, axiom, sorry.
-/
import Derived.Test.YtbchkhjkajagfaaGreatDoorRows
import GoSem.ClaimSeven
namespace Go.Proofs.YtbchkhjkajagfaaGreatDoor
namespace Rows

/-- THE TIED CARD OF 'becklaw04.NtShifts'. -/
def ntShiftsCard : Claim7 := { stood := { row := ntShiftsRow, standIns := [], harness := (true, "922e3c5699d1f5a96c2e6a4bfb86b5d60cef0c1c9e04cfb492907f1463a4b897"), looks := true }, kinds := [], alts := [], laidByText := true, laidKinds := [.widerDeep], laidTests := true, laidLooks := .later }
def NtShiftsCardSaid : Prop := Claim7.holds Tryz.pinned (.plain (OpenSpec.ofChange ntShiftsSpec)) ntShiftsCard

/-- THE TIED CARD OF 'becklaw04.NtPrints'. -/
def ntPrintsCard : Claim7 := { stood := { row := ntPrintsRow, standIns := [], harness := (true, "922e3c5699d1f5a96c2e6a4bfb86b5d60cef0c1c9e04cfb492907f1463a4b897"), looks := true }, kinds := [], alts := [], laidByText := true, laidKinds := [.widerDeep], laidTests := true, laidLooks := .later }
def NtPrintsCardSaid : Prop := Claim7.holds Tryz.pinned (.plain (OpenSpec.ofChange ntPrintsSpec)) ntPrintsCard

/-- THE TIED CARD OF 'becklaw04.NtParses'. -/
def ntParsesCard : Claim7 := { stood := { row := ntParsesRow, standIns := [], harness := (true, "922e3c5699d1f5a96c2e6a4bfb86b5d60cef0c1c9e04cfb492907f1463a4b897"), looks := true }, kinds := [], alts := [], laidByText := true, laidKinds := [.widerDeep], laidTests := true, laidLooks := .later }
def NtParsesCardSaid : Prop := Claim7.holds Tryz.pinned (.plain (OpenSpec.ofChange ntParsesSpec)) ntParsesCard

/-- THE SECOND FORM's CARD OF 'becklaw04.NtShifts'. -/
def ntShiftsUptoCard : Claim7 := { stood := { row := ntShiftsUptoRow, standIns := [], harness := (true, "922e3c5699d1f5a96c2e6a4bfb86b5d60cef0c1c9e04cfb492907f1463a4b897"), looks := true }, kinds := [], alts := [], laidByText := true, laidKinds := [.widerDeep], laidTests := true, laidLooks := .later }
def NtShiftsUptoCardSaid : Prop := Claim7.holds Tryz.pinned (.plain (OpenSpec.upto ntShiftsSpec)) ntShiftsUptoCard

/-- THE SECOND FORM's CARD OF 'becklaw04.NtPrints'. -/
def ntPrintsUptoCard : Claim7 := { stood := { row := ntPrintsUptoRow, standIns := [], harness := (true, "922e3c5699d1f5a96c2e6a4bfb86b5d60cef0c1c9e04cfb492907f1463a4b897"), looks := true }, kinds := [], alts := [], laidByText := true, laidKinds := [.widerDeep], laidTests := true, laidLooks := .later }
def NtPrintsUptoCardSaid : Prop := Claim7.holds Tryz.pinned (.plain (OpenSpec.upto ntPrintsSpec)) ntPrintsUptoCard

/-- THE SECOND FORM's CARD OF 'becklaw04.NtParses'. -/
def ntParsesUptoCard : Claim7 := { stood := { row := ntParsesUptoRow, standIns := [], harness := (true, "922e3c5699d1f5a96c2e6a4bfb86b5d60cef0c1c9e04cfb492907f1463a4b897"), looks := true }, kinds := [], alts := [], laidByText := true, laidKinds := [.widerDeep], laidTests := true, laidLooks := .later }
def NtParsesUptoCardSaid : Prop := Claim7.holds Tryz.pinned (.plain (OpenSpec.upto ntParsesSpec)) ntParsesUptoCard
end Rows
end Go.Proofs.YtbchkhjkajagfaaGreatDoor
