/- Terms as values; contracts of package term's Kind, texts, of cmp's Compare and Or, over this seat's program. -/
import Derived.Test.YtbchkhjkajagfaaGreatDoorPlain
import Derived.Test.YtbchkhjkajagfaaGreatDoorRows
import Derived.Test.YtbchkhjkajagfaaGreatDoorPkA
import Derived.Test.YtbchkhjkajagfaaGreatDoorShelf
import Derived.WalkKit
import Derived.ProofKit
import Derived.OpenShut
import Derived.Handy
import Derived.Lib.Hide
import Derived.Lib.Builder
namespace Go.Proofs.YtbchkhjkajagfaaGreatDoor
open Go Go.RowKit
set_option linter.unusedVariables false
inductive Tm
  | blank (s : ByteArray)
  | iri (s : ByteArray)
  | lit (s t l : ByteArray)
  | odd (n : Int)
  | none
def tmV : Tm → Value
  | .blank s => .iface 82 (.agg #[.string s])
  | .iri s => .iface 80 (.agg #[.string s])
  | .lit s t l => .iface 56 (.agg #[.string s, .string t, .string l])
  | .odd n => .iface 115 (.agg #[.int .i64 n])
  | .none => .nilIface
def kindV : Tm → Int
  | .blank _ => 0
  | .iri _ => 1
  | .lit _ _ _ => 2
  | .odd _ => 3
  | .none => 3
def emptyB : ByteArray := ⟨#[]⟩
def text0 : Tm → ByteArray
  | .blank s => s
  | .iri s => s
  | .lit s _ _ => s
  | _ => ⟨#[]⟩
def text1 : Tm → ByteArray
  | .lit _ t _ => t
  | _ => ⟨#[]⟩
def text2 : Tm → ByteArray
  | .lit _ _ l => l
  | _ => ⟨#[]⟩
theorem ta_blank_Blank (s : ByteArray) (w : World) : (Instr.typeAssert (.iface 82 (.agg #[.string s])) 44 82 true).run Tryz.prog w = .ok (.tuple #[.agg #[.string s], .bool true]) w := by kernel_rfl
theorem ta_blank_IRI (s : ByteArray) (w : World) : (Instr.typeAssert (.iface 82 (.agg #[.string s])) 44 80 true).run Tryz.prog w = .ok (.tuple #[.agg #[.string ⟨#[]⟩], .bool false]) w := by kernel_rfl
theorem ta_blank_Literal (s : ByteArray) (w : World) : (Instr.typeAssert (.iface 82 (.agg #[.string s])) 44 56 true).run Tryz.prog w = .ok (.tuple #[.agg #[.string ⟨#[]⟩, .string ⟨#[]⟩, .string ⟨#[]⟩], .bool false]) w := by kernel_rfl
theorem ta_iri_Blank (s : ByteArray) (w : World) : (Instr.typeAssert (.iface 80 (.agg #[.string s])) 44 82 true).run Tryz.prog w = .ok (.tuple #[.agg #[.string ⟨#[]⟩], .bool false]) w := by kernel_rfl
theorem ta_iri_IRI (s : ByteArray) (w : World) : (Instr.typeAssert (.iface 80 (.agg #[.string s])) 44 80 true).run Tryz.prog w = .ok (.tuple #[.agg #[.string s], .bool true]) w := by kernel_rfl
theorem ta_iri_Literal (s : ByteArray) (w : World) : (Instr.typeAssert (.iface 80 (.agg #[.string s])) 44 56 true).run Tryz.prog w = .ok (.tuple #[.agg #[.string ⟨#[]⟩, .string ⟨#[]⟩, .string ⟨#[]⟩], .bool false]) w := by kernel_rfl
theorem ta_lit_Blank (s t l : ByteArray) (w : World) : (Instr.typeAssert (.iface 56 (.agg #[.string s, .string t, .string l])) 44 82 true).run Tryz.prog w = .ok (.tuple #[.agg #[.string ⟨#[]⟩], .bool false]) w := by kernel_rfl
theorem ta_lit_IRI (s t l : ByteArray) (w : World) : (Instr.typeAssert (.iface 56 (.agg #[.string s, .string t, .string l])) 44 80 true).run Tryz.prog w = .ok (.tuple #[.agg #[.string ⟨#[]⟩], .bool false]) w := by kernel_rfl
theorem ta_lit_Literal (s t l : ByteArray) (w : World) : (Instr.typeAssert (.iface 56 (.agg #[.string s, .string t, .string l])) 44 56 true).run Tryz.prog w = .ok (.tuple #[.agg #[.string s, .string t, .string l], .bool true]) w := by kernel_rfl
theorem ta_odd_Blank (n : Int) (w : World) : (Instr.typeAssert (.iface 115 (.agg #[.int .i64 n])) 44 82 true).run Tryz.prog w = .ok (.tuple #[.agg #[.string ⟨#[]⟩], .bool false]) w := by kernel_rfl
theorem ta_odd_IRI (n : Int) (w : World) : (Instr.typeAssert (.iface 115 (.agg #[.int .i64 n])) 44 80 true).run Tryz.prog w = .ok (.tuple #[.agg #[.string ⟨#[]⟩], .bool false]) w := by kernel_rfl
theorem ta_odd_Literal (n : Int) (w : World) : (Instr.typeAssert (.iface 115 (.agg #[.int .i64 n])) 44 56 true).run Tryz.prog w = .ok (.tuple #[.agg #[.string ⟨#[]⟩, .string ⟨#[]⟩, .string ⟨#[]⟩], .bool false]) w := by kernel_rfl
theorem ta_none_Blank  (w : World) : (Instr.typeAssert (.nilIface) 44 82 true).run Tryz.prog w = .ok (.tuple #[.agg #[.string ⟨#[]⟩], .bool false]) w := by kernel_rfl
theorem ta_none_IRI  (w : World) : (Instr.typeAssert (.nilIface) 44 80 true).run Tryz.prog w = .ok (.tuple #[.agg #[.string ⟨#[]⟩], .bool false]) w := by kernel_rfl
theorem ta_none_Literal  (w : World) : (Instr.typeAssert (.nilIface) 44 56 true).run Tryz.prog w = .ok (.tuple #[.agg #[.string ⟨#[]⟩, .string ⟨#[]⟩, .string ⟨#[]⟩], .bool false]) w := by kernel_rfl
set_option maxRecDepth 100000 in
theorem kind_any (x : Tm) (w : World) : Calls Tryz.prog 44 #[tmV x] w fun e w' => e = .returned (.int .i64 (kindV x)) ∧ w = w' := by
  cases x with
  | blank s =>
    show Calls Tryz.prog 44 #[.iface 82 (.agg #[.string s])] w _
    have t0 := ta_blank_Blank s
    have t1 := ta_blank_IRI s
    have t2 := ta_blank_Literal s
    go_enter Tryz.func44, Tryz.ntmps44
    go_wp2
    go_ret
    exact ⟨rfl, rfl⟩
  | iri s =>
    show Calls Tryz.prog 44 #[.iface 80 (.agg #[.string s])] w _
    have t0 := ta_iri_Blank s
    have t1 := ta_iri_IRI s
    have t2 := ta_iri_Literal s
    go_enter Tryz.func44, Tryz.ntmps44
    go_wp2
    go_ret
    exact ⟨rfl, rfl⟩
  | lit s t l =>
    show Calls Tryz.prog 44 #[.iface 56 (.agg #[.string s, .string t, .string l])] w _
    have t0 := ta_lit_Blank s t l
    have t1 := ta_lit_IRI s t l
    have t2 := ta_lit_Literal s t l
    go_enter Tryz.func44, Tryz.ntmps44
    go_wp2
    go_ret
    exact ⟨rfl, rfl⟩
  | odd n =>
    show Calls Tryz.prog 44 #[.iface 115 (.agg #[.int .i64 n])] w _
    have t0 := ta_odd_Blank n
    have t1 := ta_odd_IRI n
    have t2 := ta_odd_Literal n
    go_enter Tryz.func44, Tryz.ntmps44
    go_wp2
    go_ret
    exact ⟨rfl, rfl⟩
  | none =>
    show Calls Tryz.prog 44 #[.nilIface] w _
    have t0 := ta_none_Blank
    have t1 := ta_none_IRI
    have t2 := ta_none_Literal
    go_enter Tryz.func44, Tryz.ntmps44
    go_wp2
    go_ret
    exact ⟨rfl, rfl⟩
def cmpI (x y : Int) : Int := if x < y then -1 else if y < x then 1 else 0
def lessS (x y : ByteArray) : Bool := Op.bytesLess x.toList y.toList
def sameS (x y : ByteArray) : Bool := x.toList == y.toList
def cmpS (x y : ByteArray) : Int := if lessS x y then -1 else if sameS x y then 0 else 1
theorem gtr_run (x y : ByteArray) (w : World) : (Go.binOp BinOp.gtr 9 (.string x) (.string y)).run Tryz.prog w = .ok (.bool (!(Op.bytesLess x.toList y.toList || x.toList == y.toList))) w := by kernel_rfl
/-- the first that isn't 0 -/
def orV : List Int → Int
  | [] => 0
  | x :: l => if x = 0 then orV l else x
end Go.Proofs.YtbchkhjkajagfaaGreatDoor
