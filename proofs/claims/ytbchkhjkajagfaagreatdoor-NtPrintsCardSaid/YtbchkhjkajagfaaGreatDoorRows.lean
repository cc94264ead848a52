/-
  NARROWER THAN 'FOR EVERY INPUT', by the rows' own cells (each row's printed sentence says how): NtShifts: laid · NtPrints: laid · NtParses: laid.
  DERIVED. THE GIVEN ROWS OF THIS SEAT. 3 by the template 'for every input the law returns true; each argument reads behind the call as it read before'; 0 by the template 'total and deterministic' (their statements: YtbchkhjkajagfaaGreatDoorTotals.lean).
  GIVEN WITH THE SEED: the statements are not yours to turn. If you find one false, say at which input.
  Laid BY PROGRAM, IN A SANDBOX (cutbox-rows.mjs): the forced cells as the released guide's own fill.sh prints them over the translation f531c833feac2431… (all of the seat's roots in one cut). By AI agents, Wed Nov 11 2026. No macro, syntax, notation, axiom, sorry.
-/
import Derived.Test.YtbchkhjkajagfaaGreatDoorChecked
import GoSem.Claim
import GoSem.ClaimJoined
import GoSem.ClaimMapViews
import Derived.JoinedTies
import Derived.KernelRfl
namespace Go.Proofs.YtbchkhjkajagfaaGreatDoor
/- THE CELL 'sum', in the pinned program and in every row, IS THE sha256 OF THE DUMP (.gsa) THAT YtbchkhjkajagfaaGreatDoorProg.lean LOADS. Nothing in Lean hashes anything: it is a label: what it is worth is what the hold of that sum in a sandbox is worth. -/
noncomputable def Tryz.pinned : Pinned := { name := "ytbchkhjkajagfaagreatdoor", sum := "f531c833feac24310ce6e51db205cd7926eefcf963be1a391fb4fa96bb8272cf", checked := Tryz.checked }
namespace Rows
def none {H : Type} : Left H := { results := [], args := [] }

/- WHAT THE LISTED PACKAGE-LEVEL VARIABLES READ AS WHEN THE CALL BEGINS. Each datum BY PROGRAM (the guide's laid-datum.mjs) off the statement by which the dump's own 'gosem.cut.vars' lays the variable. In a bare row this is a premise. The card (YtbchkhjkajagfaaGreatDoorCards.lean) ties it to the program's text. -/
def laid_beck_scan_escapes {H : Type} : DataW H := .agg [.agg [.lit (.int .i32 116), .lit (.int .i32 9)], .agg [.lit (.int .i32 110), .lit (.int .i32 10)], .agg [.lit (.int .i32 114), .lit (.int .i32 13)], .agg [.lit (.int .i32 98), .lit (.int .i32 8)], .agg [.lit (.int .i32 102), .lit (.int .i32 12)], .agg [.lit (.int .i32 34), .lit (.int .i32 34)], .agg [.lit (.int .i32 92), .lit (.int .i32 92)], .agg [.lit (.int .i32 39), .lit (.int .i32 39)]]

/-- 'becklaw04.NtShifts': WHATEVER THE INPUT: true; the input reads as it did. -/
def ntShiftsSpec : ChangeSpec := { name := "ntShifts", fn := fun _ => fun
  | [d1, d2] => { results := [.lit (.bool true)], args := [d1, d2] }
  | _ => none }
def ntShiftsRow : OpenClaim := { program := "ytbchkhjkajagfaagreatdoor", sum := "f531c833feac24310ce6e51db205cd7926eefcf963be1a391fb4fa96bb8272cf", func := "beck/becklaw04.NtShifts", spec := "ntShifts", inPlace := ["internal/abi.NoEscape"], unfollowed := true, recurses := true, named := ["beck/scan.escapes"], apart := false, laid := [("beck/scan.escapes", laid_beck_scan_escapes)] }
def NtShiftsSaid : Prop := ntShiftsRow.holds Tryz.pinned (OpenSpec.ofChange ntShiftsSpec)

/-- ITS FALSE NEIGHBOUR: 'it returns false'. Refute it at one input. -/
def ntShiftsWrong : ChangeSpec := { name := "ntShifts", fn := fun _ => fun
  | [d1, d2] => { results := [.lit (.bool false)], args := [d1, d2] }
  | _ => none }
def NtShiftsWrongFalsely : Prop := ntShiftsRow.holds Tryz.pinned (OpenSpec.ofChange ntShiftsWrong)

/-- 'becklaw04.NtPrints': WHATEVER THE INPUT: true; the input reads as it did. -/
def ntPrintsSpec : ChangeSpec := { name := "ntPrints", fn := fun _ => fun
  | [d] => { results := [.lit (.bool true)], args := [d] }
  | _ => none }
def ntPrintsRow : OpenClaim := { program := "ytbchkhjkajagfaagreatdoor", sum := "f531c833feac24310ce6e51db205cd7926eefcf963be1a391fb4fa96bb8272cf", func := "beck/becklaw04.NtPrints", spec := "ntPrints", inPlace := ["internal/abi.NoEscape"], unfollowed := true, recurses := true, named := ["beck/scan.escapes"], apart := false, laid := [("beck/scan.escapes", laid_beck_scan_escapes)] }
def NtPrintsSaid : Prop := ntPrintsRow.holds Tryz.pinned (OpenSpec.ofChange ntPrintsSpec)

/-- ITS FALSE NEIGHBOUR: 'it returns false'. Refute it at one input. -/
def ntPrintsWrong : ChangeSpec := { name := "ntPrints", fn := fun _ => fun
  | [d] => { results := [.lit (.bool false)], args := [d] }
  | _ => none }
def NtPrintsWrongFalsely : Prop := ntPrintsRow.holds Tryz.pinned (OpenSpec.ofChange ntPrintsWrong)

/-- 'becklaw04.NtParses': WHATEVER THE INPUT: true; the input reads as it did. -/
def ntParsesSpec : ChangeSpec := { name := "ntParses", fn := fun _ => fun
  | [d] => { results := [.lit (.bool true)], args := [d] }
  | _ => none }
def ntParsesRow : OpenClaim := { program := "ytbchkhjkajagfaagreatdoor", sum := "f531c833feac24310ce6e51db205cd7926eefcf963be1a391fb4fa96bb8272cf", func := "beck/becklaw04.NtParses", spec := "ntParses", inPlace := ["internal/abi.NoEscape"], unfollowed := true, recurses := true, named := ["beck/scan.escapes"], apart := false, laid := [("beck/scan.escapes", laid_beck_scan_escapes)] }
def NtParsesSaid : Prop := ntParsesRow.holds Tryz.pinned (OpenSpec.ofChange ntParsesSpec)

/-- ITS FALSE NEIGHBOUR: 'it returns false'. Refute it at one input. -/
def ntParsesWrong : ChangeSpec := { name := "ntParses", fn := fun _ => fun
  | [d] => { results := [.lit (.bool false)], args := [d] }
  | _ => none }
def NtParsesWrongFalsely : Prop := ntParsesRow.holds Tryz.pinned (OpenSpec.ofChange ntParsesWrong)

/- THE SECOND FORM. 'bulk': how many values and letters a reading holds, each counted each time it is reached (what is shared counts as often as it is met; a slice's spare places count too). A statement '..UptoSaid' is the law's where the arguments, and the package variables that the reading takes, are together of bulk at most 1048576: NARROWER than '..Said'. Prove '..Said' where nothing that the law and all that it calls make is longer than what came in: it says more and counts as full. Else prove '..UptoSaid'. A law counts once. -/
mutual
def uptoBulk {H : Type} : DataW H → Nat
  | .lit (.string bytes) => bytes.length + 1
  | .lit _ => 1
  | .nil => 1
  | .ptr d => uptoBulk d + 1
  | .slice elems spare => uptoBulkAll elems + uptoBulkAll spare + 1
  | .agg parts => uptoBulkAll parts + 1
  | .iface _ d => uptoBulk d + 1
  | .map entries => uptoBulkEntries entries + 1
  | .held _ => 1
def uptoBulkAll {H : Type} : List (DataW H) → Nat
  | [] => 0
  | d :: r => uptoBulk d + uptoBulkAll r
def uptoBulkEntries {H : Type} : List (Lit × DataW H) → Nat
  | [] => 0
  | x :: r => uptoBulkEntry x + uptoBulkEntries r
def uptoBulkEntry {H : Type} : Lit × DataW H → Nat
  | (.string bytes, d) => bytes.length + uptoBulk d + 1
  | (_, d) => uptoBulk d + 1
 end
def uptoSmall : (H : Type) → List (DataW H) → Bool := fun _ ds => decide (uptoBulkAll ds ≤ 1048576)
def OpenSpec.upto (s : _root_.Go.ChangeSpec) : _root_.Go.OpenSpec := { _root_.Go.OpenSpec.ofChange s with cond := some uptoSmall }

/-- 'becklaw04.NtShifts', WHERE WHAT IT READS IS OF BULK AT MOST 1048576: true; the input reads as it did. -/
def ntShiftsUptoRow : OpenClaim := { program := "ytbchkhjkajagfaagreatdoor", sum := "f531c833feac24310ce6e51db205cd7926eefcf963be1a391fb4fa96bb8272cf", func := "beck/becklaw04.NtShifts", spec := "ntShifts", inPlace := ["internal/abi.NoEscape"], unfollowed := true, recurses := true, named := ["beck/scan.escapes"], apart := false, laid := [("beck/scan.escapes", laid_beck_scan_escapes)], narrowed := true }
def NtShiftsUptoSaid : Prop := ntShiftsUptoRow.holds Tryz.pinned (OpenSpec.upto ntShiftsSpec)

/-- 'becklaw04.NtPrints', WHERE WHAT IT READS IS OF BULK AT MOST 1048576: true; the input reads as it did. -/
def ntPrintsUptoRow : OpenClaim := { program := "ytbchkhjkajagfaagreatdoor", sum := "f531c833feac24310ce6e51db205cd7926eefcf963be1a391fb4fa96bb8272cf", func := "beck/becklaw04.NtPrints", spec := "ntPrints", inPlace := ["internal/abi.NoEscape"], unfollowed := true, recurses := true, named := ["beck/scan.escapes"], apart := false, laid := [("beck/scan.escapes", laid_beck_scan_escapes)], narrowed := true }
def NtPrintsUptoSaid : Prop := ntPrintsUptoRow.holds Tryz.pinned (OpenSpec.upto ntPrintsSpec)

/-- 'becklaw04.NtParses', WHERE WHAT IT READS IS OF BULK AT MOST 1048576: true; the input reads as it did. -/
def ntParsesUptoRow : OpenClaim := { program := "ytbchkhjkajagfaagreatdoor", sum := "f531c833feac24310ce6e51db205cd7926eefcf963be1a391fb4fa96bb8272cf", func := "beck/becklaw04.NtParses", spec := "ntParses", inPlace := ["internal/abi.NoEscape"], unfollowed := true, recurses := true, named := ["beck/scan.escapes"], apart := false, laid := [("beck/scan.escapes", laid_beck_scan_escapes)], narrowed := true }
def NtParsesUptoSaid : Prop := ntParsesUptoRow.holds Tryz.pinned (OpenSpec.upto ntParsesSpec)

end Rows
end Go.Proofs.YtbchkhjkajagfaaGreatDoor
