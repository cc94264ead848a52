/- Contracts of package term's of over this seat's program. Every term and kind. -/
import Derived.Test.YteeajhnbifpklaaDoorTmGood
import Derived.BigRegion
namespace Go.Proofs.YteeajhnbifpklaaDoor
open Go Go.RowKit
set_option linter.unusedVariables false
def litV : Tm → Value
  | .lit s t l => .agg #[.string s, .string t, .string l]
  | _ => .agg #[.string ⟨#[]⟩, .string ⟨#[]⟩, .string ⟨#[]⟩]
def ofV (k : ByteArray) : Tm → Bool
  | .lit _ t _ => t.toList == k.toList
  | _ => false
set_option maxRecDepth 100000 in
set_option maxHeartbeats 800000 in
theorem of_any3 (x : Tm) (k : ByteArray) (w : World) : Calls Tryd.prog 39 #[tmV x, .string k] w fun e w' => e = .returned (.tuple #[litV x, .bool (ofV k x)]) ∧ Below w.heap.size w w' := by
  cases x with
  | blank s =>
    show Calls Tryd.prog 39 #[.iface 62 (.agg #[.string s]), .string k] w fun e w' => e = .returned (.tuple #[.agg #[.string ⟨#[]⟩, .string ⟨#[]⟩, .string ⟨#[]⟩], .bool (false)]) ∧ Below w.heap.size w w'
    have t0 := ta_blank_Literal s
    go_enter Tryd.func39, Tryd.ntmps39
    go_wp2
    go_region
    all_goals (try go_wp2)
    all_goals
      refine bodyPost_ret (v := .tuple #[.agg #[.string ⟨#[]⟩, .string ⟨#[]⟩, .string ⟨#[]⟩], .bool false]) (by simp [results, Tryd.results39, go_sem]) rfl ?_
      exact ⟨rfl, by go_grown⟩
  | iri s =>
    show Calls Tryd.prog 39 #[.iface 53 (.agg #[.string s]), .string k] w fun e w' => e = .returned (.tuple #[.agg #[.string ⟨#[]⟩, .string ⟨#[]⟩, .string ⟨#[]⟩], .bool (false)]) ∧ Below w.heap.size w w'
    have t0 := ta_iri_Literal s
    go_enter Tryd.func39, Tryd.ntmps39
    go_wp2
    go_region
    all_goals (try go_wp2)
    all_goals
      refine bodyPost_ret (v := .tuple #[.agg #[.string ⟨#[]⟩, .string ⟨#[]⟩, .string ⟨#[]⟩], .bool false]) (by simp [results, Tryd.results39, go_sem]) rfl ?_
      exact ⟨rfl, by go_grown⟩
  | lit s t l =>
    show Calls Tryd.prog 39 #[.iface 35 (.agg #[.string s, .string t, .string l]), .string k] w fun e w' => e = .returned (.tuple #[.agg #[.string s, .string t, .string l], .bool (t.toList == k.toList)]) ∧ Below w.heap.size w w'
    have t0 := ta_lit_Literal s t l
    cases hB : t.toList == k.toList with
    | true =>
      go_enter Tryd.func39, Tryd.ntmps39
      go_wp2
      go_region
      all_goals (try go_wp2)
      all_goals
        refine bodyPost_ret (v := .tuple #[.agg #[.string s, .string t, .string l], .bool true]) (by simp [results, Tryd.results39, go_sem]) rfl ?_
        exact ⟨rfl, by go_grown⟩
    | false =>
      go_enter Tryd.func39, Tryd.ntmps39
      go_wp2
      go_region
      all_goals (try go_wp2)
      all_goals
        refine bodyPost_ret (v := .tuple #[.agg #[.string s, .string t, .string l], .bool false]) (by simp [results, Tryd.results39, go_sem]) rfl ?_
        exact ⟨rfl, by go_grown⟩
  | odd n =>
    show Calls Tryd.prog 39 #[.iface 64 (.agg #[.int .i64 n]), .string k] w fun e w' => e = .returned (.tuple #[.agg #[.string ⟨#[]⟩, .string ⟨#[]⟩, .string ⟨#[]⟩], .bool (false)]) ∧ Below w.heap.size w w'
    have t0 := ta_odd_Literal n
    go_enter Tryd.func39, Tryd.ntmps39
    go_wp2
    go_region
    all_goals (try go_wp2)
    all_goals
      refine bodyPost_ret (v := .tuple #[.agg #[.string ⟨#[]⟩, .string ⟨#[]⟩, .string ⟨#[]⟩], .bool false]) (by simp [results, Tryd.results39, go_sem]) rfl ?_
      exact ⟨rfl, by go_grown⟩
  | none =>
    show Calls Tryd.prog 39 #[.nilIface, .string k] w fun e w' => e = .returned (.tuple #[.agg #[.string ⟨#[]⟩, .string ⟨#[]⟩, .string ⟨#[]⟩], .bool (false)]) ∧ Below w.heap.size w w'
    have t0 := ta_none_Literal
    go_enter Tryd.func39, Tryd.ntmps39
    go_wp2
    go_region
    all_goals (try go_wp2)
    all_goals
      refine bodyPost_ret (v := .tuple #[.agg #[.string ⟨#[]⟩, .string ⟨#[]⟩, .string ⟨#[]⟩], .bool false]) (by simp [results, Tryd.results39, go_sem]) rfl ?_
      exact ⟨rfl, by go_grown⟩
end Go.Proofs.YteeajhnbifpklaaDoor
