/- Contracts over this seat's program: package term's MustIRI, and whether it panics. -/
import Derived.Test.YteeajhnbifpklaaGreatDoorTmReal
import Derived.Defers
import Derived.Recover
import Derived.Laws.Pointers
namespace Go.Proofs.YteeajhnbifpklaaGreatDoor
open Go Go.RowKit
set_option linter.unusedVariables false
set_option linter.unusedSimpArgs false
theorem ta_iri (s : ByteArray) (w : World) : (Instr.typeAssert (.iface 50 (.agg #[.string s])) 28 50 false).run Tryz.prog w = .ok (.agg #[.string s]) w := by kernel_rfl
set_option maxRecDepth 100000 in
theorem must_iri (s : ByteArray) (w : World) : Calls Tryz.prog 19 #[.iface 50 (.agg #[.string s])] w fun e w' => e = .returned (.agg #[.string s]) ∧ Below w.heap.size w w' := by
  have t0 := ta_iri s
  go_enter Tryz.func19, Tryz.ntmps19
  go_wp2
  refine bodyPost_ret (v := .agg #[.string s]) (by simp [results, Tryz.results19, go_sem]) rfl ?_
  exact ⟨rfl, by go_grown⟩
theorem tf_nil  (w : World) : (Instr.typeAssert (.nilIface) 28 50 false).run Tryz.prog w = .halt (.panic (.iface 15 (.pointer (some ⟨w.heap.size, 0, none⟩)))) (w.alloc (.cells #[typeHandle Tryz.prog 28, .pointer none, typeHandle Tryz.prog 50, strVal ""] 122)) := by kernel_rfl
set_option maxRecDepth 100000 in
theorem must_nil  (w : World) : Calls Tryz.prog 19 #[.nilIface] w fun e w' => ∃ u pv, e = .panicked [{ v := .iface u pv, recovered := false }] ∧ Below w.heap.size w w' := by
  have t0 := tf_nil
  generalize typeHandle Tryz.prog 28 = g1 at t0
  generalize typeHandle Tryz.prog 50 = g2 at t0
  go_enter Tryz.func19, Tryz.ntmps19
  go_wp2
  show _ ∧ _
  exact ⟨rfl, _, _, rfl, by go_grown⟩
theorem tf_blank (s : ByteArray) (w : World) : (Instr.typeAssert (.iface 58 (.agg #[.string s])) 28 50 false).run Tryz.prog w = .halt (.panic (.iface 15 (.pointer (some ⟨w.heap.size, 0, none⟩)))) (w.alloc (.cells #[typeHandle Tryz.prog 28, typeHandle Tryz.prog 58, typeHandle Tryz.prog 50, strVal ""] 122)) := by kernel_rfl
set_option maxRecDepth 100000 in
theorem must_blank (s : ByteArray) (w : World) : Calls Tryz.prog 19 #[.iface 58 (.agg #[.string s])] w fun e w' => ∃ u pv, e = .panicked [{ v := .iface u pv, recovered := false }] ∧ Below w.heap.size w w' := by
  have t0 := tf_blank s
  generalize typeHandle Tryz.prog 28 = g1 at t0
  generalize typeHandle Tryz.prog 50 = g2 at t0
  go_enter Tryz.func19, Tryz.ntmps19
  go_wp2
  show _ ∧ _
  exact ⟨rfl, _, _, rfl, by go_grown⟩
theorem tf_lit (s t l : ByteArray) (w : World) : (Instr.typeAssert (.iface 53 (.agg #[.string s, .string t, .string l])) 28 50 false).run Tryz.prog w = .halt (.panic (.iface 15 (.pointer (some ⟨w.heap.size, 0, none⟩)))) (w.alloc (.cells #[typeHandle Tryz.prog 28, typeHandle Tryz.prog 53, typeHandle Tryz.prog 50, strVal ""] 122)) := by kernel_rfl
set_option maxRecDepth 100000 in
theorem must_lit (s t l : ByteArray) (w : World) : Calls Tryz.prog 19 #[.iface 53 (.agg #[.string s, .string t, .string l])] w fun e w' => ∃ u pv, e = .panicked [{ v := .iface u pv, recovered := false }] ∧ Below w.heap.size w w' := by
  have t0 := tf_lit s t l
  generalize typeHandle Tryz.prog 28 = g1 at t0
  generalize typeHandle Tryz.prog 50 = g2 at t0
  go_enter Tryz.func19, Tryz.ntmps19
  go_wp2
  show _ ∧ _
  exact ⟨rfl, _, _, rfl, by go_grown⟩
theorem tf_odd (n : Int) (w : World) : (Instr.typeAssert (.iface 60 (.agg #[.int .i64 n])) 28 50 false).run Tryz.prog w = .halt (.panic (.iface 15 (.pointer (some ⟨w.heap.size, 0, none⟩)))) (w.alloc (.cells #[typeHandle Tryz.prog 28, typeHandle Tryz.prog 60, typeHandle Tryz.prog 50, strVal ""] 122)) := by kernel_rfl
set_option maxRecDepth 100000 in
theorem must_odd (n : Int) (w : World) : Calls Tryz.prog 19 #[.iface 60 (.agg #[.int .i64 n])] w fun e w' => ∃ u pv, e = .panicked [{ v := .iface u pv, recovered := false }] ∧ Below w.heap.size w w' := by
  have t0 := tf_odd n
  generalize typeHandle Tryz.prog 28 = g1 at t0
  generalize typeHandle Tryz.prog 50 = g2 at t0
  go_enter Tryz.func19, Tryz.ntmps19
  go_wp2
  show _ ∧ _
  exact ⟨rfl, _, _, rfl, by go_grown⟩
end Go.Proofs.YteeajhnbifpklaaGreatDoor
