/- Contracts of package term's of over this seat's program. Every term and kind. -/
import Derived.Test.YteeajhnbifpklaaGreatDoorTmGood
import Derived.BigRegion
namespace Go.Proofs.YteeajhnbifpklaaGreatDoor
open Go Go.RowKit
set_option linter.unusedVariables false
def litV : Tm → Value
  | .lit s t l => .agg #[.string s, .string t, .string l]
  | _ => .agg #[.string ⟨#[]⟩, .string ⟨#[]⟩, .string ⟨#[]⟩]
def ofV (k : ByteArray) : Tm → Bool
  | .lit _ t _ => t.toList == k.toList
  | _ => false
set_option maxRecDepth 100000 in
set_option maxHeartbeats 800000 in
theorem of_any3 (x : Tm) (k : ByteArray) (w : World) : Calls Tryz.prog 22 #[tmV x, .string k] w fun e w' => e = .returned (.tuple #[litV x, .bool (ofV k x)]) ∧ Below w.heap.size w w' := by
  cases x with
  | blank s =>
    show Calls Tryz.prog 22 #[.iface 58 (.agg #[.string s]), .string k] w fun e w' => e = .returned (.tuple #[.agg #[.string ⟨#[]⟩, .string ⟨#[]⟩, .string ⟨#[]⟩], .bool (false)]) ∧ Below w.heap.size w w'
    have t0 := ta_blank_Literal s
    go_enter Tryz.func22, Tryz.ntmps22
    go_wp2
    go_region
    all_goals (try go_wp2)
    all_goals
      refine bodyPost_ret (v := .tuple #[.agg #[.string ⟨#[]⟩, .string ⟨#[]⟩, .string ⟨#[]⟩], .bool false]) (by simp [results, Tryz.results22, go_sem]) rfl ?_
      exact ⟨rfl, by go_grown⟩
  | iri s =>
    show Calls Tryz.prog 22 #[.iface 50 (.agg #[.string s]), .string k] w fun e w' => e = .returned (.tuple #[.agg #[.string ⟨#[]⟩, .string ⟨#[]⟩, .string ⟨#[]⟩], .bool (false)]) ∧ Below w.heap.size w w'
    have t0 := ta_iri_Literal s
    go_enter Tryz.func22, Tryz.ntmps22
    go_wp2
    go_region
    all_goals (try go_wp2)
    all_goals
      refine bodyPost_ret (v := .tuple #[.agg #[.string ⟨#[]⟩, .string ⟨#[]⟩, .string ⟨#[]⟩], .bool false]) (by simp [results, Tryz.results22, go_sem]) rfl ?_
      exact ⟨rfl, by go_grown⟩
  | lit s t l =>
    show Calls Tryz.prog 22 #[.iface 53 (.agg #[.string s, .string t, .string l]), .string k] w fun e w' => e = .returned (.tuple #[.agg #[.string s, .string t, .string l], .bool (t.toList == k.toList)]) ∧ Below w.heap.size w w'
    have t0 := ta_lit_Literal s t l
    cases hB : t.toList == k.toList with
    | true =>
      go_enter Tryz.func22, Tryz.ntmps22
      go_wp2
      go_region
      all_goals (try go_wp2)
      all_goals
        refine bodyPost_ret (v := .tuple #[.agg #[.string s, .string t, .string l], .bool true]) (by simp [results, Tryz.results22, go_sem]) rfl ?_
        exact ⟨rfl, by go_grown⟩
    | false =>
      go_enter Tryz.func22, Tryz.ntmps22
      go_wp2
      go_region
      all_goals (try go_wp2)
      all_goals
        refine bodyPost_ret (v := .tuple #[.agg #[.string s, .string t, .string l], .bool false]) (by simp [results, Tryz.results22, go_sem]) rfl ?_
        exact ⟨rfl, by go_grown⟩
  | odd n =>
    show Calls Tryz.prog 22 #[.iface 60 (.agg #[.int .i64 n]), .string k] w fun e w' => e = .returned (.tuple #[.agg #[.string ⟨#[]⟩, .string ⟨#[]⟩, .string ⟨#[]⟩], .bool (false)]) ∧ Below w.heap.size w w'
    have t0 := ta_odd_Literal n
    go_enter Tryz.func22, Tryz.ntmps22
    go_wp2
    go_region
    all_goals (try go_wp2)
    all_goals
      refine bodyPost_ret (v := .tuple #[.agg #[.string ⟨#[]⟩, .string ⟨#[]⟩, .string ⟨#[]⟩], .bool false]) (by simp [results, Tryz.results22, go_sem]) rfl ?_
      exact ⟨rfl, by go_grown⟩
  | none =>
    show Calls Tryz.prog 22 #[.nilIface, .string k] w fun e w' => e = .returned (.tuple #[.agg #[.string ⟨#[]⟩, .string ⟨#[]⟩, .string ⟨#[]⟩], .bool (false)]) ∧ Below w.heap.size w w'
    have t0 := ta_none_Literal
    go_enter Tryz.func22, Tryz.ntmps22
    go_wp2
    go_region
    all_goals (try go_wp2)
    all_goals
      refine bodyPost_ret (v := .tuple #[.agg #[.string ⟨#[]⟩, .string ⟨#[]⟩, .string ⟨#[]⟩], .bool false]) (by simp [results, Tryz.results22, go_sem]) rfl ?_
      exact ⟨rfl, by go_grown⟩
end Go.Proofs.YteeajhnbifpklaaGreatDoor
