/-
  NARROWER THAN 'FOR EVERY INPUT', by the rows' own cells (each row's printed sentence says how): ScanPieces: laid · ScanUnlike: laid · ScanClasses: laid · ScanJoins: laid · ScanTexts: laid · ScanAgain: laid · ScanUntils: laid · ScanPlays: laid · ScanReads: laid · ScanQuotes: laid.
  DERIVED. THE GIVEN ROWS OF THIS SEAT. 10 by the template 'for every input the law returns true; each argument reads behind the call as it read before'; 0 by the template 'total and deterministic' (their statements: YteicjmippeobpaaDoorTotals.lean).
  GIVEN WITH THE SEED: the statements are not yours to turn. If you find one false, say at which input.
  Laid BY PROGRAM, IN A SANDBOX (cutbox-rows.mjs): the forced cells as the released guide's own fill.sh prints them over the translation a5b07576aba8d48a… (all of the seat's roots in one cut). By AI agents, Wed Nov 11 2026. No macro, syntax, notation, axiom, sorry.
-/
import Derived.Test.YteicjmippeobpaaDoorChecked
import GoSem.Claim
import GoSem.ClaimJoined
import GoSem.ClaimMapViews
import Derived.JoinedTies
import Derived.KernelRfl
namespace Go.Proofs.YteicjmippeobpaaDoor
/- THE CELL 'sum', in the pinned program and in every row, IS THE sha256 OF THE DUMP (.gsa) THAT YteicjmippeobpaaDoorProg.lean LOADS. Nothing in Lean hashes anything: it is a label: what it is worth is what the hold of that sum in a sandbox is worth. -/
noncomputable def Tryd.pinned : Pinned := { name := "yteicjmippeobpaadoor", sum := "a5b07576aba8d48aa97a3dd7c9bf6ad865b27cbbb2097c7f0b298a36de873531", checked := Tryd.checked }
namespace Rows
def none {H : Type} : Left H := { results := [], args := [] }

/- WHAT THE LISTED PACKAGE-LEVEL VARIABLES READ AS WHEN THE CALL BEGINS. Each datum BY PROGRAM (the guide's laid-datum.mjs) off the statement by which the dump's own 'gosem.cut.vars' lays the variable. In a bare row this is a premise. The card (YteicjmippeobpaaDoorCards.lean) ties it to the program's text. -/
def laid_beck_scan_escapes {H : Type} : DataW H := .agg [.agg [.lit (.int .i32 116), .lit (.int .i32 9)], .agg [.lit (.int .i32 110), .lit (.int .i32 10)], .agg [.lit (.int .i32 114), .lit (.int .i32 13)], .agg [.lit (.int .i32 98), .lit (.int .i32 8)], .agg [.lit (.int .i32 102), .lit (.int .i32 12)], .agg [.lit (.int .i32 34), .lit (.int .i32 34)], .agg [.lit (.int .i32 92), .lit (.int .i32 92)], .agg [.lit (.int .i32 39), .lit (.int .i32 39)]]

/-- 'becklaw01.ScanPieces': WHATEVER THE INPUT: true; the input reads as it did. -/
def scanPiecesSpec : ChangeSpec := { name := "scanPieces", fn := fun _ => fun
  | [d1, d2] => { results := [.lit (.bool true)], args := [d1, d2] }
  | _ => none }
def scanPiecesRow : OpenClaim := { program := "yteicjmippeobpaadoor", sum := "a5b07576aba8d48aa97a3dd7c9bf6ad865b27cbbb2097c7f0b298a36de873531", func := "beck/becklaw01.ScanPieces", spec := "scanPieces", inPlace := ["internal/abi.NoEscape"], named := ["beck/scan.escapes"], apart := false, laid := [("beck/scan.escapes", laid_beck_scan_escapes)] }
def ScanPiecesSaid : Prop := scanPiecesRow.holds Tryd.pinned (OpenSpec.ofChange scanPiecesSpec)

/-- ITS FALSE NEIGHBOUR: 'it returns false'. Refute it at one input. -/
def scanPiecesWrong : ChangeSpec := { name := "scanPieces", fn := fun _ => fun
  | [d1, d2] => { results := [.lit (.bool false)], args := [d1, d2] }
  | _ => none }
def ScanPiecesWrongFalsely : Prop := scanPiecesRow.holds Tryd.pinned (OpenSpec.ofChange scanPiecesWrong)

/-- 'becklaw01.ScanUnlike': WHATEVER THE INPUT: true; the input reads as it did. -/
def scanUnlikeSpec : ChangeSpec := { name := "scanUnlike", fn := fun _ => fun
  | [d1, d2] => { results := [.lit (.bool true)], args := [d1, d2] }
  | _ => none }
def scanUnlikeRow : OpenClaim := { program := "yteicjmippeobpaadoor", sum := "a5b07576aba8d48aa97a3dd7c9bf6ad865b27cbbb2097c7f0b298a36de873531", func := "beck/becklaw01.ScanUnlike", spec := "scanUnlike", inPlace := ["internal/abi.NoEscape"], named := ["beck/scan.escapes"], apart := false, laid := [("beck/scan.escapes", laid_beck_scan_escapes)] }
def ScanUnlikeSaid : Prop := scanUnlikeRow.holds Tryd.pinned (OpenSpec.ofChange scanUnlikeSpec)

/-- ITS FALSE NEIGHBOUR: 'it returns false'. Refute it at one input. -/
def scanUnlikeWrong : ChangeSpec := { name := "scanUnlike", fn := fun _ => fun
  | [d1, d2] => { results := [.lit (.bool false)], args := [d1, d2] }
  | _ => none }
def ScanUnlikeWrongFalsely : Prop := scanUnlikeRow.holds Tryd.pinned (OpenSpec.ofChange scanUnlikeWrong)

/-- 'becklaw01.ScanClasses': WHATEVER THE INPUT: true; the input reads as it did. -/
def scanClassesSpec : ChangeSpec := { name := "scanClasses", fn := fun _ => fun
  | [d] => { results := [.lit (.bool true)], args := [d] }
  | _ => none }
def scanClassesRow : OpenClaim := { program := "yteicjmippeobpaadoor", sum := "a5b07576aba8d48aa97a3dd7c9bf6ad865b27cbbb2097c7f0b298a36de873531", func := "beck/becklaw01.ScanClasses", spec := "scanClasses", inPlace := ["internal/abi.NoEscape"], named := ["beck/scan.escapes"], apart := false, laid := [("beck/scan.escapes", laid_beck_scan_escapes)] }
def ScanClassesSaid : Prop := scanClassesRow.holds Tryd.pinned (OpenSpec.ofChange scanClassesSpec)

/-- ITS FALSE NEIGHBOUR: 'it returns false'. Refute it at one input. -/
def scanClassesWrong : ChangeSpec := { name := "scanClasses", fn := fun _ => fun
  | [d] => { results := [.lit (.bool false)], args := [d] }
  | _ => none }
def ScanClassesWrongFalsely : Prop := scanClassesRow.holds Tryd.pinned (OpenSpec.ofChange scanClassesWrong)

/-- 'becklaw01.ScanJoins': WHATEVER THE INPUT: true; the input reads as it did. -/
def scanJoinsSpec : ChangeSpec := { name := "scanJoins", fn := fun _ => fun
  | [d1, d2] => { results := [.lit (.bool true)], args := [d1, d2] }
  | _ => none }
def scanJoinsRow : OpenClaim := { program := "yteicjmippeobpaadoor", sum := "a5b07576aba8d48aa97a3dd7c9bf6ad865b27cbbb2097c7f0b298a36de873531", func := "beck/becklaw01.ScanJoins", spec := "scanJoins", inPlace := ["internal/abi.NoEscape"], named := ["beck/scan.escapes"], apart := false, laid := [("beck/scan.escapes", laid_beck_scan_escapes)] }
def ScanJoinsSaid : Prop := scanJoinsRow.holds Tryd.pinned (OpenSpec.ofChange scanJoinsSpec)

/-- ITS FALSE NEIGHBOUR: 'it returns false'. Refute it at one input. -/
def scanJoinsWrong : ChangeSpec := { name := "scanJoins", fn := fun _ => fun
  | [d1, d2] => { results := [.lit (.bool false)], args := [d1, d2] }
  | _ => none }
def ScanJoinsWrongFalsely : Prop := scanJoinsRow.holds Tryd.pinned (OpenSpec.ofChange scanJoinsWrong)

/-- 'becklaw01.ScanTexts': WHATEVER THE INPUT: true; the input reads as it did. -/
def scanTextsSpec : ChangeSpec := { name := "scanTexts", fn := fun _ => fun
  | [d] => { results := [.lit (.bool true)], args := [d] }
  | _ => none }
def scanTextsRow : OpenClaim := { program := "yteicjmippeobpaadoor", sum := "a5b07576aba8d48aa97a3dd7c9bf6ad865b27cbbb2097c7f0b298a36de873531", func := "beck/becklaw01.ScanTexts", spec := "scanTexts", inPlace := ["internal/abi.NoEscape"], named := ["beck/scan.escapes"], apart := false, laid := [("beck/scan.escapes", laid_beck_scan_escapes)] }
def ScanTextsSaid : Prop := scanTextsRow.holds Tryd.pinned (OpenSpec.ofChange scanTextsSpec)

/-- ITS FALSE NEIGHBOUR: 'it returns false'. Refute it at one input. -/
def scanTextsWrong : ChangeSpec := { name := "scanTexts", fn := fun _ => fun
  | [d] => { results := [.lit (.bool false)], args := [d] }
  | _ => none }
def ScanTextsWrongFalsely : Prop := scanTextsRow.holds Tryd.pinned (OpenSpec.ofChange scanTextsWrong)

/-- 'becklaw01.ScanAgain': WHATEVER THE INPUT: true; the input reads as it did. -/
def scanAgainSpec : ChangeSpec := { name := "scanAgain", fn := fun _ => fun
  | [d1, d2] => { results := [.lit (.bool true)], args := [d1, d2] }
  | _ => none }
def scanAgainRow : OpenClaim := { program := "yteicjmippeobpaadoor", sum := "a5b07576aba8d48aa97a3dd7c9bf6ad865b27cbbb2097c7f0b298a36de873531", func := "beck/becklaw01.ScanAgain", spec := "scanAgain", inPlace := ["internal/abi.NoEscape"], named := ["beck/scan.escapes"], apart := false, laid := [("beck/scan.escapes", laid_beck_scan_escapes)] }
def ScanAgainSaid : Prop := scanAgainRow.holds Tryd.pinned (OpenSpec.ofChange scanAgainSpec)

/-- ITS FALSE NEIGHBOUR: 'it returns false'. Refute it at one input. -/
def scanAgainWrong : ChangeSpec := { name := "scanAgain", fn := fun _ => fun
  | [d1, d2] => { results := [.lit (.bool false)], args := [d1, d2] }
  | _ => none }
def ScanAgainWrongFalsely : Prop := scanAgainRow.holds Tryd.pinned (OpenSpec.ofChange scanAgainWrong)

/-- 'becklaw01.ScanUntils': WHATEVER THE INPUT: true; the input reads as it did. -/
def scanUntilsSpec : ChangeSpec := { name := "scanUntils", fn := fun _ => fun
  | [d1, d2] => { results := [.lit (.bool true)], args := [d1, d2] }
  | _ => none }
def scanUntilsRow : OpenClaim := { program := "yteicjmippeobpaadoor", sum := "a5b07576aba8d48aa97a3dd7c9bf6ad865b27cbbb2097c7f0b298a36de873531", func := "beck/becklaw01.ScanUntils", spec := "scanUntils", inPlace := ["internal/abi.NoEscape"], named := ["beck/scan.escapes"], apart := false, laid := [("beck/scan.escapes", laid_beck_scan_escapes)] }
def ScanUntilsSaid : Prop := scanUntilsRow.holds Tryd.pinned (OpenSpec.ofChange scanUntilsSpec)

/-- ITS FALSE NEIGHBOUR: 'it returns false'. Refute it at one input. -/
def scanUntilsWrong : ChangeSpec := { name := "scanUntils", fn := fun _ => fun
  | [d1, d2] => { results := [.lit (.bool false)], args := [d1, d2] }
  | _ => none }
def ScanUntilsWrongFalsely : Prop := scanUntilsRow.holds Tryd.pinned (OpenSpec.ofChange scanUntilsWrong)

/-- 'becklaw01.ScanPlays': WHATEVER THE INPUT: true; the input reads as it did. -/
def scanPlaysSpec : ChangeSpec := { name := "scanPlays", fn := fun _ => fun
  | [d1, d2] => { results := [.lit (.bool true)], args := [d1, d2] }
  | _ => none }
def scanPlaysRow : OpenClaim := { program := "yteicjmippeobpaadoor", sum := "a5b07576aba8d48aa97a3dd7c9bf6ad865b27cbbb2097c7f0b298a36de873531", func := "beck/becklaw01.ScanPlays", spec := "scanPlays", inPlace := ["internal/abi.NoEscape"], named := ["beck/scan.escapes"], apart := false, laid := [("beck/scan.escapes", laid_beck_scan_escapes)] }
def ScanPlaysSaid : Prop := scanPlaysRow.holds Tryd.pinned (OpenSpec.ofChange scanPlaysSpec)

/-- ITS FALSE NEIGHBOUR: 'it returns false'. Refute it at one input. -/
def scanPlaysWrong : ChangeSpec := { name := "scanPlays", fn := fun _ => fun
  | [d1, d2] => { results := [.lit (.bool false)], args := [d1, d2] }
  | _ => none }
def ScanPlaysWrongFalsely : Prop := scanPlaysRow.holds Tryd.pinned (OpenSpec.ofChange scanPlaysWrong)

/-- 'becklaw01.ScanReads': WHATEVER THE INPUT: true; the input reads as it did. -/
def scanReadsSpec : ChangeSpec := { name := "scanReads", fn := fun _ => fun
  | [d1, d2] => { results := [.lit (.bool true)], args := [d1, d2] }
  | _ => none }
def scanReadsRow : OpenClaim := { program := "yteicjmippeobpaadoor", sum := "a5b07576aba8d48aa97a3dd7c9bf6ad865b27cbbb2097c7f0b298a36de873531", func := "beck/becklaw01.ScanReads", spec := "scanReads", inPlace := ["internal/abi.NoEscape"], named := ["beck/scan.escapes"], apart := false, laid := [("beck/scan.escapes", laid_beck_scan_escapes)] }
def ScanReadsSaid : Prop := scanReadsRow.holds Tryd.pinned (OpenSpec.ofChange scanReadsSpec)

/-- ITS FALSE NEIGHBOUR: 'it returns false'. Refute it at one input. -/
def scanReadsWrong : ChangeSpec := { name := "scanReads", fn := fun _ => fun
  | [d1, d2] => { results := [.lit (.bool false)], args := [d1, d2] }
  | _ => none }
def ScanReadsWrongFalsely : Prop := scanReadsRow.holds Tryd.pinned (OpenSpec.ofChange scanReadsWrong)

/-- 'becklaw01.ScanQuotes': WHATEVER THE INPUT: true; the input reads as it did. -/
def scanQuotesSpec : ChangeSpec := { name := "scanQuotes", fn := fun _ => fun
  | [d1, d2] => { results := [.lit (.bool true)], args := [d1, d2] }
  | _ => none }
def scanQuotesRow : OpenClaim := { program := "yteicjmippeobpaadoor", sum := "a5b07576aba8d48aa97a3dd7c9bf6ad865b27cbbb2097c7f0b298a36de873531", func := "beck/becklaw01.ScanQuotes", spec := "scanQuotes", inPlace := ["internal/abi.NoEscape"], named := ["beck/scan.escapes"], apart := false, laid := [("beck/scan.escapes", laid_beck_scan_escapes)] }
def ScanQuotesSaid : Prop := scanQuotesRow.holds Tryd.pinned (OpenSpec.ofChange scanQuotesSpec)

/-- ITS FALSE NEIGHBOUR: 'it returns false'. Refute it at one input. -/
def scanQuotesWrong : ChangeSpec := { name := "scanQuotes", fn := fun _ => fun
  | [d1, d2] => { results := [.lit (.bool false)], args := [d1, d2] }
  | _ => none }
def ScanQuotesWrongFalsely : Prop := scanQuotesRow.holds Tryd.pinned (OpenSpec.ofChange scanQuotesWrong)

/- THE SECOND FORM. 'bulk': how many values and letters a reading holds, each counted each time it is reached (what is shared counts as often as it is met; a slice's spare places count too). A statement '..UptoSaid' is the law's where the arguments, and the package variables that the reading takes, are together of bulk at most 1048576: NARROWER than '..Said'. Prove '..Said' where nothing that the law and all that it calls make is longer than what came in: it says more and counts as full. Else prove '..UptoSaid'. A law counts once. -/
mutual
def uptoBulk {H : Type} : DataW H → Nat
  | .lit (.string bytes) => bytes.length + 1
  | .lit _ => 1
  | .nil => 1
  | .ptr d => uptoBulk d + 1
  | .slice elems spare => uptoBulkAll elems + uptoBulkAll spare + 1
  | .agg parts => uptoBulkAll parts + 1
  | .iface _ d => uptoBulk d + 1
  | .map entries => uptoBulkEntries entries + 1
  | .held _ => 1
def uptoBulkAll {H : Type} : List (DataW H) → Nat
  | [] => 0
  | d :: r => uptoBulk d + uptoBulkAll r
def uptoBulkEntries {H : Type} : List (Lit × DataW H) → Nat
  | [] => 0
  | x :: r => uptoBulkEntry x + uptoBulkEntries r
def uptoBulkEntry {H : Type} : Lit × DataW H → Nat
  | (.string bytes, d) => bytes.length + uptoBulk d + 1
  | (_, d) => uptoBulk d + 1
 end
def uptoSmall : (H : Type) → List (DataW H) → Bool := fun _ ds => decide (uptoBulkAll ds ≤ 1048576)
def OpenSpec.upto (s : _root_.Go.ChangeSpec) : _root_.Go.OpenSpec := { _root_.Go.OpenSpec.ofChange s with cond := some uptoSmall }

/-- 'becklaw01.ScanPieces', WHERE WHAT IT READS IS OF BULK AT MOST 1048576: true; the input reads as it did. -/
def scanPiecesUptoRow : OpenClaim := { program := "yteicjmippeobpaadoor", sum := "a5b07576aba8d48aa97a3dd7c9bf6ad865b27cbbb2097c7f0b298a36de873531", func := "beck/becklaw01.ScanPieces", spec := "scanPieces", inPlace := ["internal/abi.NoEscape"], named := ["beck/scan.escapes"], apart := false, laid := [("beck/scan.escapes", laid_beck_scan_escapes)], narrowed := true }
def ScanPiecesUptoSaid : Prop := scanPiecesUptoRow.holds Tryd.pinned (OpenSpec.upto scanPiecesSpec)

/-- 'becklaw01.ScanUnlike', WHERE WHAT IT READS IS OF BULK AT MOST 1048576: true; the input reads as it did. -/
def scanUnlikeUptoRow : OpenClaim := { program := "yteicjmippeobpaadoor", sum := "a5b07576aba8d48aa97a3dd7c9bf6ad865b27cbbb2097c7f0b298a36de873531", func := "beck/becklaw01.ScanUnlike", spec := "scanUnlike", inPlace := ["internal/abi.NoEscape"], named := ["beck/scan.escapes"], apart := false, laid := [("beck/scan.escapes", laid_beck_scan_escapes)], narrowed := true }
def ScanUnlikeUptoSaid : Prop := scanUnlikeUptoRow.holds Tryd.pinned (OpenSpec.upto scanUnlikeSpec)

/-- 'becklaw01.ScanClasses', WHERE WHAT IT READS IS OF BULK AT MOST 1048576: true; the input reads as it did. -/
def scanClassesUptoRow : OpenClaim := { program := "yteicjmippeobpaadoor", sum := "a5b07576aba8d48aa97a3dd7c9bf6ad865b27cbbb2097c7f0b298a36de873531", func := "beck/becklaw01.ScanClasses", spec := "scanClasses", inPlace := ["internal/abi.NoEscape"], named := ["beck/scan.escapes"], apart := false, laid := [("beck/scan.escapes", laid_beck_scan_escapes)], narrowed := true }
def ScanClassesUptoSaid : Prop := scanClassesUptoRow.holds Tryd.pinned (OpenSpec.upto scanClassesSpec)

/-- 'becklaw01.ScanJoins', WHERE WHAT IT READS IS OF BULK AT MOST 1048576: true; the input reads as it did. -/
def scanJoinsUptoRow : OpenClaim := { program := "yteicjmippeobpaadoor", sum := "a5b07576aba8d48aa97a3dd7c9bf6ad865b27cbbb2097c7f0b298a36de873531", func := "beck/becklaw01.ScanJoins", spec := "scanJoins", inPlace := ["internal/abi.NoEscape"], named := ["beck/scan.escapes"], apart := false, laid := [("beck/scan.escapes", laid_beck_scan_escapes)], narrowed := true }
def ScanJoinsUptoSaid : Prop := scanJoinsUptoRow.holds Tryd.pinned (OpenSpec.upto scanJoinsSpec)

/-- 'becklaw01.ScanTexts', WHERE WHAT IT READS IS OF BULK AT MOST 1048576: true; the input reads as it did. -/
def scanTextsUptoRow : OpenClaim := { program := "yteicjmippeobpaadoor", sum := "a5b07576aba8d48aa97a3dd7c9bf6ad865b27cbbb2097c7f0b298a36de873531", func := "beck/becklaw01.ScanTexts", spec := "scanTexts", inPlace := ["internal/abi.NoEscape"], named := ["beck/scan.escapes"], apart := false, laid := [("beck/scan.escapes", laid_beck_scan_escapes)], narrowed := true }
def ScanTextsUptoSaid : Prop := scanTextsUptoRow.holds Tryd.pinned (OpenSpec.upto scanTextsSpec)

/-- 'becklaw01.ScanAgain', WHERE WHAT IT READS IS OF BULK AT MOST 1048576: true; the input reads as it did. -/
def scanAgainUptoRow : OpenClaim := { program := "yteicjmippeobpaadoor", sum := "a5b07576aba8d48aa97a3dd7c9bf6ad865b27cbbb2097c7f0b298a36de873531", func := "beck/becklaw01.ScanAgain", spec := "scanAgain", inPlace := ["internal/abi.NoEscape"], named := ["beck/scan.escapes"], apart := false, laid := [("beck/scan.escapes", laid_beck_scan_escapes)], narrowed := true }
def ScanAgainUptoSaid : Prop := scanAgainUptoRow.holds Tryd.pinned (OpenSpec.upto scanAgainSpec)

/-- 'becklaw01.ScanUntils', WHERE WHAT IT READS IS OF BULK AT MOST 1048576: true; the input reads as it did. -/
def scanUntilsUptoRow : OpenClaim := { program := "yteicjmippeobpaadoor", sum := "a5b07576aba8d48aa97a3dd7c9bf6ad865b27cbbb2097c7f0b298a36de873531", func := "beck/becklaw01.ScanUntils", spec := "scanUntils", inPlace := ["internal/abi.NoEscape"], named := ["beck/scan.escapes"], apart := false, laid := [("beck/scan.escapes", laid_beck_scan_escapes)], narrowed := true }
def ScanUntilsUptoSaid : Prop := scanUntilsUptoRow.holds Tryd.pinned (OpenSpec.upto scanUntilsSpec)

/-- 'becklaw01.ScanPlays', WHERE WHAT IT READS IS OF BULK AT MOST 1048576: true; the input reads as it did. -/
def scanPlaysUptoRow : OpenClaim := { program := "yteicjmippeobpaadoor", sum := "a5b07576aba8d48aa97a3dd7c9bf6ad865b27cbbb2097c7f0b298a36de873531", func := "beck/becklaw01.ScanPlays", spec := "scanPlays", inPlace := ["internal/abi.NoEscape"], named := ["beck/scan.escapes"], apart := false, laid := [("beck/scan.escapes", laid_beck_scan_escapes)], narrowed := true }
def ScanPlaysUptoSaid : Prop := scanPlaysUptoRow.holds Tryd.pinned (OpenSpec.upto scanPlaysSpec)

/-- 'becklaw01.ScanReads', WHERE WHAT IT READS IS OF BULK AT MOST 1048576: true; the input reads as it did. -/
def scanReadsUptoRow : OpenClaim := { program := "yteicjmippeobpaadoor", sum := "a5b07576aba8d48aa97a3dd7c9bf6ad865b27cbbb2097c7f0b298a36de873531", func := "beck/becklaw01.ScanReads", spec := "scanReads", inPlace := ["internal/abi.NoEscape"], named := ["beck/scan.escapes"], apart := false, laid := [("beck/scan.escapes", laid_beck_scan_escapes)], narrowed := true }
def ScanReadsUptoSaid : Prop := scanReadsUptoRow.holds Tryd.pinned (OpenSpec.upto scanReadsSpec)

/-- 'becklaw01.ScanQuotes', WHERE WHAT IT READS IS OF BULK AT MOST 1048576: true; the input reads as it did. -/
def scanQuotesUptoRow : OpenClaim := { program := "yteicjmippeobpaadoor", sum := "a5b07576aba8d48aa97a3dd7c9bf6ad865b27cbbb2097c7f0b298a36de873531", func := "beck/becklaw01.ScanQuotes", spec := "scanQuotes", inPlace := ["internal/abi.NoEscape"], named := ["beck/scan.escapes"], apart := false, laid := [("beck/scan.escapes", laid_beck_scan_escapes)], narrowed := true }
def ScanQuotesUptoSaid : Prop := scanQuotesUptoRow.holds Tryd.pinned (OpenSpec.upto scanQuotesSpec)

end Rows
end Go.Proofs.YteicjmippeobpaaDoor
