/- Terms as values; contracts of package term's Kind, texts, of cmp's Compare and Or, over this seat's program. -/
import Derived.Test.YtghimladdioajaaPlain
import Derived.Test.YtghimladdioajaaRows
import Derived.Test.YtghimladdioajaaMem
import Derived.Test.YtghimladdioajaaShelf
import Derived.WalkKit
import Derived.ProofKit
import Derived.OpenShut
import Derived.Handy
import Derived.Lib.Hide
import Derived.Lib.Builder
namespace Go.Proofs.Ytghimladdioajaa
open Go Go.RowKit
set_option linter.unusedVariables false
inductive Tm
  | blank (s : ByteArray)
  | iri (s : ByteArray)
  | lit (s t l : ByteArray)
  | odd (n : Int)
  | none
def tmV : Tm → Value
  | .blank s => .iface 93 (.agg #[.string s])
  | .iri s => .iface 95 (.agg #[.string s])
  | .lit s t l => .iface 84 (.agg #[.string s, .string t, .string l])
  | .odd n => .iface 97 (.agg #[.int .i64 n])
  | .none => .nilIface
def kindV : Tm → Int
  | .blank _ => 0
  | .iri _ => 1
  | .lit _ _ _ => 2
  | .odd _ => 3
  | .none => 3
def emptyB : ByteArray := ⟨#[]⟩
def text0 : Tm → ByteArray
  | .blank s => s
  | .iri s => s
  | .lit s _ _ => s
  | _ => ⟨#[]⟩
def text1 : Tm → ByteArray
  | .lit _ t _ => t
  | _ => ⟨#[]⟩
def text2 : Tm → ByteArray
  | .lit _ _ l => l
  | _ => ⟨#[]⟩
theorem ta_blank_Blank (s : ByteArray) (w : World) : (Instr.typeAssert (.iface 93 (.agg #[.string s])) 39 93 true).run Try.prog w = .ok (.tuple #[.agg #[.string s], .bool true]) w := by kernel_rfl
theorem ta_blank_IRI (s : ByteArray) (w : World) : (Instr.typeAssert (.iface 93 (.agg #[.string s])) 39 95 true).run Try.prog w = .ok (.tuple #[.agg #[.string ⟨#[]⟩], .bool false]) w := by kernel_rfl
theorem ta_blank_Literal (s : ByteArray) (w : World) : (Instr.typeAssert (.iface 93 (.agg #[.string s])) 39 84 true).run Try.prog w = .ok (.tuple #[.agg #[.string ⟨#[]⟩, .string ⟨#[]⟩, .string ⟨#[]⟩], .bool false]) w := by kernel_rfl
theorem ta_iri_Blank (s : ByteArray) (w : World) : (Instr.typeAssert (.iface 95 (.agg #[.string s])) 39 93 true).run Try.prog w = .ok (.tuple #[.agg #[.string ⟨#[]⟩], .bool false]) w := by kernel_rfl
theorem ta_iri_IRI (s : ByteArray) (w : World) : (Instr.typeAssert (.iface 95 (.agg #[.string s])) 39 95 true).run Try.prog w = .ok (.tuple #[.agg #[.string s], .bool true]) w := by kernel_rfl
theorem ta_iri_Literal (s : ByteArray) (w : World) : (Instr.typeAssert (.iface 95 (.agg #[.string s])) 39 84 true).run Try.prog w = .ok (.tuple #[.agg #[.string ⟨#[]⟩, .string ⟨#[]⟩, .string ⟨#[]⟩], .bool false]) w := by kernel_rfl
theorem ta_lit_Blank (s t l : ByteArray) (w : World) : (Instr.typeAssert (.iface 84 (.agg #[.string s, .string t, .string l])) 39 93 true).run Try.prog w = .ok (.tuple #[.agg #[.string ⟨#[]⟩], .bool false]) w := by kernel_rfl
theorem ta_lit_IRI (s t l : ByteArray) (w : World) : (Instr.typeAssert (.iface 84 (.agg #[.string s, .string t, .string l])) 39 95 true).run Try.prog w = .ok (.tuple #[.agg #[.string ⟨#[]⟩], .bool false]) w := by kernel_rfl
theorem ta_lit_Literal (s t l : ByteArray) (w : World) : (Instr.typeAssert (.iface 84 (.agg #[.string s, .string t, .string l])) 39 84 true).run Try.prog w = .ok (.tuple #[.agg #[.string s, .string t, .string l], .bool true]) w := by kernel_rfl
theorem ta_odd_Blank (n : Int) (w : World) : (Instr.typeAssert (.iface 97 (.agg #[.int .i64 n])) 39 93 true).run Try.prog w = .ok (.tuple #[.agg #[.string ⟨#[]⟩], .bool false]) w := by kernel_rfl
theorem ta_odd_IRI (n : Int) (w : World) : (Instr.typeAssert (.iface 97 (.agg #[.int .i64 n])) 39 95 true).run Try.prog w = .ok (.tuple #[.agg #[.string ⟨#[]⟩], .bool false]) w := by kernel_rfl
theorem ta_odd_Literal (n : Int) (w : World) : (Instr.typeAssert (.iface 97 (.agg #[.int .i64 n])) 39 84 true).run Try.prog w = .ok (.tuple #[.agg #[.string ⟨#[]⟩, .string ⟨#[]⟩, .string ⟨#[]⟩], .bool false]) w := by kernel_rfl
theorem ta_none_Blank  (w : World) : (Instr.typeAssert (.nilIface) 39 93 true).run Try.prog w = .ok (.tuple #[.agg #[.string ⟨#[]⟩], .bool false]) w := by kernel_rfl
theorem ta_none_IRI  (w : World) : (Instr.typeAssert (.nilIface) 39 95 true).run Try.prog w = .ok (.tuple #[.agg #[.string ⟨#[]⟩], .bool false]) w := by kernel_rfl
theorem ta_none_Literal  (w : World) : (Instr.typeAssert (.nilIface) 39 84 true).run Try.prog w = .ok (.tuple #[.agg #[.string ⟨#[]⟩, .string ⟨#[]⟩, .string ⟨#[]⟩], .bool false]) w := by kernel_rfl
set_option maxRecDepth 100000 in
theorem kind_any (x : Tm) (w : World) : Calls Try.prog 45 #[tmV x] w fun e w' => e = .returned (.int .i64 (kindV x)) ∧ w = w' := by
  cases x with
  | blank s =>
    show Calls Try.prog 45 #[.iface 93 (.agg #[.string s])] w _
    have t0 := ta_blank_Blank s
    have t1 := ta_blank_IRI s
    have t2 := ta_blank_Literal s
    go_enter Try.func45, Try.ntmps45
    go_wp2
    go_ret
    exact ⟨rfl, rfl⟩
  | iri s =>
    show Calls Try.prog 45 #[.iface 95 (.agg #[.string s])] w _
    have t0 := ta_iri_Blank s
    have t1 := ta_iri_IRI s
    have t2 := ta_iri_Literal s
    go_enter Try.func45, Try.ntmps45
    go_wp2
    go_ret
    exact ⟨rfl, rfl⟩
  | lit s t l =>
    show Calls Try.prog 45 #[.iface 84 (.agg #[.string s, .string t, .string l])] w _
    have t0 := ta_lit_Blank s t l
    have t1 := ta_lit_IRI s t l
    have t2 := ta_lit_Literal s t l
    go_enter Try.func45, Try.ntmps45
    go_wp2
    go_ret
    exact ⟨rfl, rfl⟩
  | odd n =>
    show Calls Try.prog 45 #[.iface 97 (.agg #[.int .i64 n])] w _
    have t0 := ta_odd_Blank n
    have t1 := ta_odd_IRI n
    have t2 := ta_odd_Literal n
    go_enter Try.func45, Try.ntmps45
    go_wp2
    go_ret
    exact ⟨rfl, rfl⟩
  | none =>
    show Calls Try.prog 45 #[.nilIface] w _
    have t0 := ta_none_Blank
    have t1 := ta_none_IRI
    have t2 := ta_none_Literal
    go_enter Try.func45, Try.ntmps45
    go_wp2
    go_ret
    exact ⟨rfl, rfl⟩
def cmpI (x y : Int) : Int := if x < y then -1 else if y < x then 1 else 0
theorem cmpi_any (x y : Int) (w : World) : Calls Try.prog 40 #[.int .i64 x, .int .i64 y] w fun e w' => e = .returned (.int .i64 (cmpI x y)) ∧ w = w' := by
  obtain ⟨R, hR⟩ : ∃ R, R = cmpI x y := ⟨_, rfl⟩
  rw [← hR]
  unfold cmpI at hR
  rcases (by omega : x < y ∨ (¬ x < y ∧ y < x) ∨ (¬ x < y ∧ ¬ y < x)) with h | ⟨h1, h2⟩ | ⟨h1, h2⟩
  · rw [if_pos h] at hR
    subst hR
    go_enter Try.func40, Try.ntmps40
    go_wp2
    go_ret
    exact ⟨rfl, rfl⟩
  · rw [if_neg h1, if_pos h2] at hR
    subst hR
    go_enter Try.func40, Try.ntmps40
    go_wp2
    go_ret
    exact ⟨rfl, rfl⟩
  · rw [if_neg h1, if_neg h2] at hR
    subst hR
    go_enter Try.func40, Try.ntmps40
    go_wp2
    go_ret
    exact ⟨rfl, rfl⟩
def lessS (x y : ByteArray) : Bool := Op.bytesLess x.toList y.toList
def sameS (x y : ByteArray) : Bool := x.toList == y.toList
def cmpS (x y : ByteArray) : Int := if lessS x y then -1 else if sameS x y then 0 else 1
theorem gtr_run (x y : ByteArray) (w : World) : (Go.binOp BinOp.gtr 9 (.string x) (.string y)).run Try.prog w = .ok (.bool (!(Op.bytesLess x.toList y.toList || x.toList == y.toList))) w := by kernel_rfl
theorem cmps_any (x y : ByteArray) (w : World) : Calls Try.prog 50 #[.string x, .string y] w fun e w' => e = .returned (.int .i64 (cmpS x y)) ∧ w = w' := by
  obtain ⟨R, hR⟩ : ∃ R, R = cmpS x y := ⟨_, rfl⟩
  rw [← hR]
  unfold cmpS lessS sameS at hR
  have g := gtr_run x y
  cases h1 : Op.bytesLess x.toList y.toList with
  | true =>
    rw [h1, if_pos rfl] at hR
    subst hR
    go_enter Try.func50, Try.ntmps50
    go_wp2
    go_ret
    exact ⟨rfl, rfl⟩
  | false =>
    cases h2 : x.toList == y.toList with
    | true =>
      rw [h1, h2] at hR g
      obtain rfl : R = 0 := hR
      go_enter Try.func50, Try.ntmps50
      go_wp2
      go_ret
      exact ⟨rfl, rfl⟩
    | false =>
      rw [h1, h2] at hR g
      obtain rfl : R = 1 := hR
      go_enter Try.func50, Try.ntmps50
      go_wp2
      go_ret
      exact ⟨rfl, rfl⟩
/-- the first that isn't 0 -/
def orV : List Int → Int
  | [] => 0
  | x :: l => if x = 0 then orV l else x
theorem or_four (x y z u : Int) (B : Nat) (w : World) (h : w.heap[B]? = some (.cells #[.int .i64 x, .int .i64 y, .int .i64 z, .int .i64 u] 3)) :
    Calls Try.prog 49 #[.slice (some ⟨B, 0, none⟩) 4 4] w fun e w' => e = .returned (.int .i64 (orV [x, y, z, u])) ∧ w = w' := by
  have c0 : w.cell? ⟨B, 0, none⟩ = some (.int .i64 x) := by rw [Lib.cell_of_heap h]; rfl
  have c1 : w.cell? ⟨B, 1, none⟩ = some (.int .i64 y) := by rw [Lib.cell_of_heap h]; rfl
  have c2 : w.cell? ⟨B, 2, none⟩ = some (.int .i64 z) := by rw [Lib.cell_of_heap h]; rfl
  have c3 : w.cell? ⟨B, 3, none⟩ = some (.int .i64 u) := by rw [Lib.cell_of_heap h]; rfl
  clear h
  obtain ⟨R, hR⟩ : ∃ R, R = orV [x, y, z, u] := ⟨_, rfl⟩
  rw [← hR]
  have HR := Lib.hid hR
  clear hR
  go_enter Try.func49, Try.ntmps49
  go_wp2_with fail
  go_loop [5, 8] (fun a i => ∃ k : Nat, k ≤ 4 ∧ i = .int .i64 k ∧ Hid (R = orV ([x, y, z, u].drop k))) (fun _ i => 4 - (intOf i).toNat)
  case atStart => exact ⟨0, by omega, rfl, HR⟩
  case round =>
    obtain ⟨k, hk, rfl, H⟩ := hrel
    clear HR
    by_cases h4 : k = 4
    · subst h4
      obtain rfl : R = 0 := H.out
      go_wp2_with fail
      go_ret
      exact ⟨rfl, rfl⟩
    · obtain ⟨v, hc, hd⟩ : ∃ v, w.cell? ⟨B, k, none⟩ = some (.int .i64 v) ∧ [x, y, z, u].drop k = v :: [x, y, z, u].drop (k + 1) := by
        rcases (by omega : k = 0 ∨ k = 1 ∨ k = 2 ∨ k = 3) with rfl | rfl | rfl | rfl
        · exact ⟨x, c0, rfl⟩
        · exact ⟨y, c1, rfl⟩
        · exact ⟨z, c2, rfl⟩
        · exact ⟨u, c3, rfl⟩
      have HD := Lib.hid hd
      clear hd c0 c1 c2 c3
      by_cases h0 : v = 0
      · subst h0
        have H2 : Hid (R = orV ([x, y, z, u].drop (k + 1))) := Lib.hid (by rw [H.out, HD.out]; rfl)
        have b1 : (k : Int) < 4 := by omega
        go_wp2_with fail
        go_round
        case rel => exact ⟨k + 1, by omega, by go_num, H2⟩
        case measure => simp [intOf]; omega
      · have H2 : Hid (R = v) := Lib.hid (by rw [H.out, HD.out]; unfold orV; rw [if_neg h0])
        have b1 : (k : Int) < 4 := by omega
        have b2 : (v != 0) = true := by simpa using h0
        go_wp2_with fail
        go_ret
        exact ⟨by rw [H2.out]; rfl, rfl⟩
end Go.Proofs.Ytghimladdioajaa
