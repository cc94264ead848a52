/-
  DERIVED. GIVEN WITH THE SEED: THE CARDS: each row of YtbchkhjkajagfaaDoorRows.lean that lists a variable, with what it lists TIED to the program's text (the seventh form; the later family's looks); each row that meets fmt, with fmt's text TOLD by the authors' own Lean function (tested against real Go, not proved from fmt's source: count such statements apart). THE CARD IS WHAT COUNTS. Prove the row's statement (the work); the ties are given (YtbchkhjkajagfaaDoorTie.lean); close each card by the builder's one call (the guide's Derived/Test/ToyasCard.lean, 'card_holds'). Laid BY PROGRAM, IN A SANDBOX (cutbox-door.mjs). By AI agents, Wed Nov 11 2026. No macro, syntax, notation, axiom, sorry.
-/
import Derived.Test.YtbchkhjkajagfaaDoorRows
import GoSem.ClaimSeven
namespace Go.Proofs.YtbchkhjkajagfaaDoor
namespace Rows

/-- THE TIED CARD OF 'becklaw04.NtReads'. -/
def ntReadsCard : Claim7 := { stood := { row := ntReadsRow, standIns := [], harness := (true, "c58fda7293941c5e8f1c845cb21f91677dd16050dcb6f81cd380ec5f1c36d793"), looks := true }, kinds := [], alts := [], laidByText := true, laidKinds := [.widerDeep], laidTests := true, laidLooks := .later }
def NtReadsCardSaid : Prop := Claim7.holds Tryd.pinned (.plain (OpenSpec.ofChange ntReadsSpec)) ntReadsCard

/-- THE TIED CARD OF 'becklaw04.NtBlanks'. -/
def ntBlanksCard : Claim7 := { stood := { row := ntBlanksRow, standIns := [], harness := (true, "c58fda7293941c5e8f1c845cb21f91677dd16050dcb6f81cd380ec5f1c36d793"), looks := true }, kinds := [], alts := [], laidByText := true, laidKinds := [.widerDeep], laidTests := true, laidLooks := .later }
def NtBlanksCardSaid : Prop := Claim7.holds Tryd.pinned (.plain (OpenSpec.ofChange ntBlanksSpec)) ntBlanksCard

/-- THE TIED CARD OF 'becklaw04.NtOrders'. -/
def ntOrdersCard : Claim7 := { stood := { row := ntOrdersRow, standIns := [], harness := (true, "c58fda7293941c5e8f1c845cb21f91677dd16050dcb6f81cd380ec5f1c36d793"), looks := true }, kinds := [], alts := [], laidByText := true, laidKinds := [.widerDeep], laidTests := true, laidLooks := .later }
def NtOrdersCardSaid : Prop := Claim7.holds Tryd.pinned (.plain (OpenSpec.ofChange ntOrdersSpec)) ntOrdersCard

/-- THE TIED CARD OF 'becklaw04.NtTerms'. -/
def ntTermsCard : Claim7 := { stood := { row := ntTermsRow, standIns := [], harness := (true, "c58fda7293941c5e8f1c845cb21f91677dd16050dcb6f81cd380ec5f1c36d793"), looks := true }, kinds := [], alts := [], laidByText := true, laidKinds := [.widerDeep], laidTests := true, laidLooks := .later }
def NtTermsCardSaid : Prop := Claim7.holds Tryd.pinned (.plain (OpenSpec.ofChange ntTermsSpec)) ntTermsCard

/-- THE TIED CARD OF 'becklaw04.NtJoins'. -/
def ntJoinsCard : Claim7 := { stood := { row := ntJoinsRow, standIns := [], harness := (true, "c58fda7293941c5e8f1c845cb21f91677dd16050dcb6f81cd380ec5f1c36d793"), looks := true }, kinds := [], alts := [], laidByText := true, laidKinds := [.widerDeep], laidTests := true, laidLooks := .later }
def NtJoinsCardSaid : Prop := Claim7.holds Tryd.pinned (.plain (OpenSpec.ofChange ntJoinsSpec)) ntJoinsCard

/-- THE SECOND FORM's CARD OF 'becklaw04.NtReads'. -/
def ntReadsUptoCard : Claim7 := { stood := { row := ntReadsUptoRow, standIns := [], harness := (true, "c58fda7293941c5e8f1c845cb21f91677dd16050dcb6f81cd380ec5f1c36d793"), looks := true }, kinds := [], alts := [], laidByText := true, laidKinds := [.widerDeep], laidTests := true, laidLooks := .later }
def NtReadsUptoCardSaid : Prop := Claim7.holds Tryd.pinned (.plain (OpenSpec.upto ntReadsSpec)) ntReadsUptoCard

/-- THE SECOND FORM's CARD OF 'becklaw04.NtBlanks'. -/
def ntBlanksUptoCard : Claim7 := { stood := { row := ntBlanksUptoRow, standIns := [], harness := (true, "c58fda7293941c5e8f1c845cb21f91677dd16050dcb6f81cd380ec5f1c36d793"), looks := true }, kinds := [], alts := [], laidByText := true, laidKinds := [.widerDeep], laidTests := true, laidLooks := .later }
def NtBlanksUptoCardSaid : Prop := Claim7.holds Tryd.pinned (.plain (OpenSpec.upto ntBlanksSpec)) ntBlanksUptoCard

/-- THE SECOND FORM's CARD OF 'becklaw04.NtOrders'. -/
def ntOrdersUptoCard : Claim7 := { stood := { row := ntOrdersUptoRow, standIns := [], harness := (true, "c58fda7293941c5e8f1c845cb21f91677dd16050dcb6f81cd380ec5f1c36d793"), looks := true }, kinds := [], alts := [], laidByText := true, laidKinds := [.widerDeep], laidTests := true, laidLooks := .later }
def NtOrdersUptoCardSaid : Prop := Claim7.holds Tryd.pinned (.plain (OpenSpec.upto ntOrdersSpec)) ntOrdersUptoCard

/-- THE SECOND FORM's CARD OF 'becklaw04.NtTerms'. -/
def ntTermsUptoCard : Claim7 := { stood := { row := ntTermsUptoRow, standIns := [], harness := (true, "c58fda7293941c5e8f1c845cb21f91677dd16050dcb6f81cd380ec5f1c36d793"), looks := true }, kinds := [], alts := [], laidByText := true, laidKinds := [.widerDeep], laidTests := true, laidLooks := .later }
def NtTermsUptoCardSaid : Prop := Claim7.holds Tryd.pinned (.plain (OpenSpec.upto ntTermsSpec)) ntTermsUptoCard

/-- THE SECOND FORM's CARD OF 'becklaw04.NtJoins'. -/
def ntJoinsUptoCard : Claim7 := { stood := { row := ntJoinsUptoRow, standIns := [], harness := (true, "c58fda7293941c5e8f1c845cb21f91677dd16050dcb6f81cd380ec5f1c36d793"), looks := true }, kinds := [], alts := [], laidByText := true, laidKinds := [.widerDeep], laidTests := true, laidLooks := .later }
def NtJoinsUptoCardSaid : Prop := Claim7.holds Tryd.pinned (.plain (OpenSpec.upto ntJoinsSpec)) ntJoinsUptoCard
end Rows
end Go.Proofs.YtbchkhjkajagfaaDoor
