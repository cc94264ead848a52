/-
  NARROWER THAN 'FOR EVERY INPUT', by the rows' own cells (each row's printed sentence says how): NtReads: laid · NtBlanks: laid · NtOrders: laid · NtTerms: laid · NtJoins: laid.
  DERIVED. THE GIVEN ROWS OF THIS SEAT. 5 by the template 'for every input the law returns true; each argument reads behind the call as it read before'; 0 by the template 'total and deterministic' (their statements: YtbchkhjkajagfaaDoorTotals.lean).
  GIVEN WITH THE SEED: the statements are not yours to turn. If you find one false, say at which input.
  Laid BY PROGRAM, IN A SANDBOX (cutbox-rows.mjs): the forced cells as the released guide's own fill.sh prints them over the translation 8529503f18699028… (all of the seat's roots in one cut). By AI agents, Wed Nov 11 2026. No macro, syntax, notation, axiom, sorry.
-/
import Derived.Test.YtbchkhjkajagfaaDoorChecked
import GoSem.Claim
import GoSem.ClaimJoined
import GoSem.ClaimMapViews
import Derived.JoinedTies
import Derived.KernelRfl
namespace Go.Proofs.YtbchkhjkajagfaaDoor
/- THE CELL 'sum', in the pinned program and in every row, IS THE sha256 OF THE DUMP (.gsa) THAT YtbchkhjkajagfaaDoorProg.lean LOADS. Nothing in Lean hashes anything: it is a label: what it is worth is what the hold of that sum in a sandbox is worth. -/
noncomputable def Tryd.pinned : Pinned := { name := "ytbchkhjkajagfaadoor", sum := "8529503f18699028044d82ed5ef2db98dfb192da7efd8cdb79c86470c677ef5a", checked := Tryd.checked }
namespace Rows
def none {H : Type} : Left H := { results := [], args := [] }

/- WHAT THE LISTED PACKAGE-LEVEL VARIABLES READ AS WHEN THE CALL BEGINS. Each datum BY PROGRAM (the guide's laid-datum.mjs) off the statement by which the dump's own 'gosem.cut.vars' lays the variable. In a bare row this is a premise. The card (YtbchkhjkajagfaaDoorCards.lean) ties it to the program's text. -/
def laid_beck_scan_escapes {H : Type} : DataW H := .agg [.agg [.lit (.int .i32 116), .lit (.int .i32 9)], .agg [.lit (.int .i32 110), .lit (.int .i32 10)], .agg [.lit (.int .i32 114), .lit (.int .i32 13)], .agg [.lit (.int .i32 98), .lit (.int .i32 8)], .agg [.lit (.int .i32 102), .lit (.int .i32 12)], .agg [.lit (.int .i32 34), .lit (.int .i32 34)], .agg [.lit (.int .i32 92), .lit (.int .i32 92)], .agg [.lit (.int .i32 39), .lit (.int .i32 39)]]

/-- 'becklaw04.NtReads': WHATEVER THE INPUT: true; the input reads as it did. -/
def ntReadsSpec : ChangeSpec := { name := "ntReads", fn := fun _ => fun
  | [d1, d2] => { results := [.lit (.bool true)], args := [d1, d2] }
  | _ => none }
def ntReadsRow : OpenClaim := { program := "ytbchkhjkajagfaadoor", sum := "8529503f18699028044d82ed5ef2db98dfb192da7efd8cdb79c86470c677ef5a", func := "beck/becklaw04.NtReads", spec := "ntReads", inPlace := ["internal/abi.NoEscape"], unfollowed := true, recurses := true, named := ["beck/scan.escapes"], apart := false, laid := [("beck/scan.escapes", laid_beck_scan_escapes)] }
def NtReadsSaid : Prop := ntReadsRow.holds Tryd.pinned (OpenSpec.ofChange ntReadsSpec)

/-- ITS FALSE NEIGHBOUR: 'it returns false'. Refute it at one input. -/
def ntReadsWrong : ChangeSpec := { name := "ntReads", fn := fun _ => fun
  | [d1, d2] => { results := [.lit (.bool false)], args := [d1, d2] }
  | _ => none }
def NtReadsWrongFalsely : Prop := ntReadsRow.holds Tryd.pinned (OpenSpec.ofChange ntReadsWrong)

/-- 'becklaw04.NtBlanks': WHATEVER THE INPUT: true; the input reads as it did. -/
def ntBlanksSpec : ChangeSpec := { name := "ntBlanks", fn := fun _ => fun
  | [d1, d2] => { results := [.lit (.bool true)], args := [d1, d2] }
  | _ => none }
def ntBlanksRow : OpenClaim := { program := "ytbchkhjkajagfaadoor", sum := "8529503f18699028044d82ed5ef2db98dfb192da7efd8cdb79c86470c677ef5a", func := "beck/becklaw04.NtBlanks", spec := "ntBlanks", inPlace := ["internal/abi.NoEscape"], unfollowed := true, recurses := true, named := ["beck/scan.escapes"], apart := false, laid := [("beck/scan.escapes", laid_beck_scan_escapes)] }
def NtBlanksSaid : Prop := ntBlanksRow.holds Tryd.pinned (OpenSpec.ofChange ntBlanksSpec)

/-- ITS FALSE NEIGHBOUR: 'it returns false'. Refute it at one input. -/
def ntBlanksWrong : ChangeSpec := { name := "ntBlanks", fn := fun _ => fun
  | [d1, d2] => { results := [.lit (.bool false)], args := [d1, d2] }
  | _ => none }
def NtBlanksWrongFalsely : Prop := ntBlanksRow.holds Tryd.pinned (OpenSpec.ofChange ntBlanksWrong)

/-- 'becklaw04.NtOrders': WHATEVER THE INPUT: true; the input reads as it did. -/
def ntOrdersSpec : ChangeSpec := { name := "ntOrders", fn := fun _ => fun
  | [d1, d2] => { results := [.lit (.bool true)], args := [d1, d2] }
  | _ => none }
def ntOrdersRow : OpenClaim := { program := "ytbchkhjkajagfaadoor", sum := "8529503f18699028044d82ed5ef2db98dfb192da7efd8cdb79c86470c677ef5a", func := "beck/becklaw04.NtOrders", spec := "ntOrders", inPlace := ["internal/abi.NoEscape"], unfollowed := true, recurses := true, named := ["beck/scan.escapes"], apart := false, laid := [("beck/scan.escapes", laid_beck_scan_escapes)] }
def NtOrdersSaid : Prop := ntOrdersRow.holds Tryd.pinned (OpenSpec.ofChange ntOrdersSpec)

/-- ITS FALSE NEIGHBOUR: 'it returns false'. Refute it at one input. -/
def ntOrdersWrong : ChangeSpec := { name := "ntOrders", fn := fun _ => fun
  | [d1, d2] => { results := [.lit (.bool false)], args := [d1, d2] }
  | _ => none }
def NtOrdersWrongFalsely : Prop := ntOrdersRow.holds Tryd.pinned (OpenSpec.ofChange ntOrdersWrong)

/-- 'becklaw04.NtTerms': WHATEVER THE INPUT: true; the input reads as it did. -/
def ntTermsSpec : ChangeSpec := { name := "ntTerms", fn := fun _ => fun
  | [d1, d2] => { results := [.lit (.bool true)], args := [d1, d2] }
  | _ => none }
def ntTermsRow : OpenClaim := { program := "ytbchkhjkajagfaadoor", sum := "8529503f18699028044d82ed5ef2db98dfb192da7efd8cdb79c86470c677ef5a", func := "beck/becklaw04.NtTerms", spec := "ntTerms", inPlace := ["internal/abi.NoEscape"], unfollowed := true, recurses := true, named := ["beck/scan.escapes"], apart := false, laid := [("beck/scan.escapes", laid_beck_scan_escapes)] }
def NtTermsSaid : Prop := ntTermsRow.holds Tryd.pinned (OpenSpec.ofChange ntTermsSpec)

/-- ITS FALSE NEIGHBOUR: 'it returns false'. Refute it at one input. -/
def ntTermsWrong : ChangeSpec := { name := "ntTerms", fn := fun _ => fun
  | [d1, d2] => { results := [.lit (.bool false)], args := [d1, d2] }
  | _ => none }
def NtTermsWrongFalsely : Prop := ntTermsRow.holds Tryd.pinned (OpenSpec.ofChange ntTermsWrong)

/-- 'becklaw04.NtJoins': WHATEVER THE INPUT: true; the input reads as it did. -/
def ntJoinsSpec : ChangeSpec := { name := "ntJoins", fn := fun _ => fun
  | [d1, d2] => { results := [.lit (.bool true)], args := [d1, d2] }
  | _ => none }
def ntJoinsRow : OpenClaim := { program := "ytbchkhjkajagfaadoor", sum := "8529503f18699028044d82ed5ef2db98dfb192da7efd8cdb79c86470c677ef5a", func := "beck/becklaw04.NtJoins", spec := "ntJoins", inPlace := ["internal/abi.NoEscape"], unfollowed := true, recurses := true, named := ["beck/scan.escapes"], apart := false, laid := [("beck/scan.escapes", laid_beck_scan_escapes)] }
def NtJoinsSaid : Prop := ntJoinsRow.holds Tryd.pinned (OpenSpec.ofChange ntJoinsSpec)

/-- ITS FALSE NEIGHBOUR: 'it returns false'. Refute it at one input. -/
def ntJoinsWrong : ChangeSpec := { name := "ntJoins", fn := fun _ => fun
  | [d1, d2] => { results := [.lit (.bool false)], args := [d1, d2] }
  | _ => none }
def NtJoinsWrongFalsely : Prop := ntJoinsRow.holds Tryd.pinned (OpenSpec.ofChange ntJoinsWrong)

/- THE SECOND FORM. 'bulk': how many values and letters a reading holds, each counted each time it is reached (what is shared counts as often as it is met; a slice's spare places count too). A statement '..UptoSaid' is the law's where the arguments, and the package variables that the reading takes, are together of bulk at most 1048576: NARROWER than '..Said'. Prove '..Said' where nothing that the law and all that it calls make is longer than what came in: it says more and counts as full. Else prove '..UptoSaid'. A law counts once. -/
mutual
def uptoBulk {H : Type} : DataW H → Nat
  | .lit (.string bytes) => bytes.length + 1
  | .lit _ => 1
  | .nil => 1
  | .ptr d => uptoBulk d + 1
  | .slice elems spare => uptoBulkAll elems + uptoBulkAll spare + 1
  | .agg parts => uptoBulkAll parts + 1
  | .iface _ d => uptoBulk d + 1
  | .map entries => uptoBulkEntries entries + 1
  | .held _ => 1
def uptoBulkAll {H : Type} : List (DataW H) → Nat
  | [] => 0
  | d :: r => uptoBulk d + uptoBulkAll r
def uptoBulkEntries {H : Type} : List (Lit × DataW H) → Nat
  | [] => 0
  | x :: r => uptoBulkEntry x + uptoBulkEntries r
def uptoBulkEntry {H : Type} : Lit × DataW H → Nat
  | (.string bytes, d) => bytes.length + uptoBulk d + 1
  | (_, d) => uptoBulk d + 1
 end
def uptoSmall : (H : Type) → List (DataW H) → Bool := fun _ ds => decide (uptoBulkAll ds ≤ 1048576)
def OpenSpec.upto (s : _root_.Go.ChangeSpec) : _root_.Go.OpenSpec := { _root_.Go.OpenSpec.ofChange s with cond := some uptoSmall }

/-- 'becklaw04.NtReads', WHERE WHAT IT READS IS OF BULK AT MOST 1048576: true; the input reads as it did. -/
def ntReadsUptoRow : OpenClaim := { program := "ytbchkhjkajagfaadoor", sum := "8529503f18699028044d82ed5ef2db98dfb192da7efd8cdb79c86470c677ef5a", func := "beck/becklaw04.NtReads", spec := "ntReads", inPlace := ["internal/abi.NoEscape"], unfollowed := true, recurses := true, named := ["beck/scan.escapes"], apart := false, laid := [("beck/scan.escapes", laid_beck_scan_escapes)], narrowed := true }
def NtReadsUptoSaid : Prop := ntReadsUptoRow.holds Tryd.pinned (OpenSpec.upto ntReadsSpec)

/-- 'becklaw04.NtBlanks', WHERE WHAT IT READS IS OF BULK AT MOST 1048576: true; the input reads as it did. -/
def ntBlanksUptoRow : OpenClaim := { program := "ytbchkhjkajagfaadoor", sum := "8529503f18699028044d82ed5ef2db98dfb192da7efd8cdb79c86470c677ef5a", func := "beck/becklaw04.NtBlanks", spec := "ntBlanks", inPlace := ["internal/abi.NoEscape"], unfollowed := true, recurses := true, named := ["beck/scan.escapes"], apart := false, laid := [("beck/scan.escapes", laid_beck_scan_escapes)], narrowed := true }
def NtBlanksUptoSaid : Prop := ntBlanksUptoRow.holds Tryd.pinned (OpenSpec.upto ntBlanksSpec)

/-- 'becklaw04.NtOrders', WHERE WHAT IT READS IS OF BULK AT MOST 1048576: true; the input reads as it did. -/
def ntOrdersUptoRow : OpenClaim := { program := "ytbchkhjkajagfaadoor", sum := "8529503f18699028044d82ed5ef2db98dfb192da7efd8cdb79c86470c677ef5a", func := "beck/becklaw04.NtOrders", spec := "ntOrders", inPlace := ["internal/abi.NoEscape"], unfollowed := true, recurses := true, named := ["beck/scan.escapes"], apart := false, laid := [("beck/scan.escapes", laid_beck_scan_escapes)], narrowed := true }
def NtOrdersUptoSaid : Prop := ntOrdersUptoRow.holds Tryd.pinned (OpenSpec.upto ntOrdersSpec)

/-- 'becklaw04.NtTerms', WHERE WHAT IT READS IS OF BULK AT MOST 1048576: true; the input reads as it did. -/
def ntTermsUptoRow : OpenClaim := { program := "ytbchkhjkajagfaadoor", sum := "8529503f18699028044d82ed5ef2db98dfb192da7efd8cdb79c86470c677ef5a", func := "beck/becklaw04.NtTerms", spec := "ntTerms", inPlace := ["internal/abi.NoEscape"], unfollowed := true, recurses := true, named := ["beck/scan.escapes"], apart := false, laid := [("beck/scan.escapes", laid_beck_scan_escapes)], narrowed := true }
def NtTermsUptoSaid : Prop := ntTermsUptoRow.holds Tryd.pinned (OpenSpec.upto ntTermsSpec)

/-- 'becklaw04.NtJoins', WHERE WHAT IT READS IS OF BULK AT MOST 1048576: true; the input reads as it did. -/
def ntJoinsUptoRow : OpenClaim := { program := "ytbchkhjkajagfaadoor", sum := "8529503f18699028044d82ed5ef2db98dfb192da7efd8cdb79c86470c677ef5a", func := "beck/becklaw04.NtJoins", spec := "ntJoins", inPlace := ["internal/abi.NoEscape"], unfollowed := true, recurses := true, named := ["beck/scan.escapes"], apart := false, laid := [("beck/scan.escapes", laid_beck_scan_escapes)], narrowed := true }
def NtJoinsUptoSaid : Prop := ntJoinsUptoRow.holds Tryd.pinned (OpenSpec.upto ntJoinsSpec)

end Rows
end Go.Proofs.YtbchkhjkajagfaaDoor
