/- Contracts over this seat's program: package term's MustIRI, and whether it panics. -/
import Derived.Test.YteeajhnbifpklaaDoorTmReal
import Derived.Defers
import Derived.Recover
import Derived.Laws.Pointers
namespace Go.Proofs.YteeajhnbifpklaaDoor
open Go Go.RowKit
set_option linter.unusedVariables false
set_option linter.unusedSimpArgs false
theorem ta_iri (s : ByteArray) (w : World) : (Instr.typeAssert (.iface 53 (.agg #[.string s])) 27 53 false).run Tryd.prog w = .ok (.agg #[.string s]) w := by kernel_rfl
set_option maxRecDepth 100000 in
theorem must_iri (s : ByteArray) (w : World) : Calls Tryd.prog 37 #[.iface 53 (.agg #[.string s])] w fun e w' => e = .returned (.agg #[.string s]) ∧ Below w.heap.size w w' := by
  have t0 := ta_iri s
  go_enter Tryd.func37, Tryd.ntmps37
  go_wp2
  refine bodyPost_ret (v := .agg #[.string s]) (by simp [results, Tryd.results37, go_sem]) rfl ?_
  exact ⟨rfl, by go_grown⟩
theorem tf_nil  (w : World) : (Instr.typeAssert (.nilIface) 27 53 false).run Tryd.prog w = .halt (.panic (.iface 15 (.pointer (some ⟨w.heap.size, 0, none⟩)))) (w.alloc (.cells #[typeHandle Tryd.prog 27, .pointer none, typeHandle Tryd.prog 53, strVal ""] 155)) := by kernel_rfl
set_option maxRecDepth 100000 in
theorem must_nil  (w : World) : Calls Tryd.prog 37 #[.nilIface] w fun e w' => ∃ u pv, e = .panicked [{ v := .iface u pv, recovered := false }] ∧ Below w.heap.size w w' := by
  have t0 := tf_nil
  generalize typeHandle Tryd.prog 27 = g1 at t0
  generalize typeHandle Tryd.prog 53 = g2 at t0
  go_enter Tryd.func37, Tryd.ntmps37
  go_wp2
  show _ ∧ _
  exact ⟨rfl, _, _, rfl, by go_grown⟩
theorem tf_blank (s : ByteArray) (w : World) : (Instr.typeAssert (.iface 62 (.agg #[.string s])) 27 53 false).run Tryd.prog w = .halt (.panic (.iface 15 (.pointer (some ⟨w.heap.size, 0, none⟩)))) (w.alloc (.cells #[typeHandle Tryd.prog 27, typeHandle Tryd.prog 62, typeHandle Tryd.prog 53, strVal ""] 155)) := by kernel_rfl
set_option maxRecDepth 100000 in
theorem must_blank (s : ByteArray) (w : World) : Calls Tryd.prog 37 #[.iface 62 (.agg #[.string s])] w fun e w' => ∃ u pv, e = .panicked [{ v := .iface u pv, recovered := false }] ∧ Below w.heap.size w w' := by
  have t0 := tf_blank s
  generalize typeHandle Tryd.prog 27 = g1 at t0
  generalize typeHandle Tryd.prog 53 = g2 at t0
  go_enter Tryd.func37, Tryd.ntmps37
  go_wp2
  show _ ∧ _
  exact ⟨rfl, _, _, rfl, by go_grown⟩
theorem tf_lit (s t l : ByteArray) (w : World) : (Instr.typeAssert (.iface 35 (.agg #[.string s, .string t, .string l])) 27 53 false).run Tryd.prog w = .halt (.panic (.iface 15 (.pointer (some ⟨w.heap.size, 0, none⟩)))) (w.alloc (.cells #[typeHandle Tryd.prog 27, typeHandle Tryd.prog 35, typeHandle Tryd.prog 53, strVal ""] 155)) := by kernel_rfl
set_option maxRecDepth 100000 in
theorem must_lit (s t l : ByteArray) (w : World) : Calls Tryd.prog 37 #[.iface 35 (.agg #[.string s, .string t, .string l])] w fun e w' => ∃ u pv, e = .panicked [{ v := .iface u pv, recovered := false }] ∧ Below w.heap.size w w' := by
  have t0 := tf_lit s t l
  generalize typeHandle Tryd.prog 27 = g1 at t0
  generalize typeHandle Tryd.prog 53 = g2 at t0
  go_enter Tryd.func37, Tryd.ntmps37
  go_wp2
  show _ ∧ _
  exact ⟨rfl, _, _, rfl, by go_grown⟩
theorem tf_odd (n : Int) (w : World) : (Instr.typeAssert (.iface 64 (.agg #[.int .i64 n])) 27 53 false).run Tryd.prog w = .halt (.panic (.iface 15 (.pointer (some ⟨w.heap.size, 0, none⟩)))) (w.alloc (.cells #[typeHandle Tryd.prog 27, typeHandle Tryd.prog 64, typeHandle Tryd.prog 53, strVal ""] 155)) := by kernel_rfl
set_option maxRecDepth 100000 in
theorem must_odd (n : Int) (w : World) : Calls Tryd.prog 37 #[.iface 64 (.agg #[.int .i64 n])] w fun e w' => ∃ u pv, e = .panicked [{ v := .iface u pv, recovered := false }] ∧ Below w.heap.size w w' := by
  have t0 := tf_odd n
  generalize typeHandle Tryd.prog 27 = g1 at t0
  generalize typeHandle Tryd.prog 53 = g2 at t0
  go_enter Tryd.func37, Tryd.ntmps37
  go_wp2
  show _ ∧ _
  exact ⟨rfl, _, _, rfl, by go_grown⟩
set_option maxRecDepth 100000 in
theorem catch_panicking (p : Addr) (x : Bool) (u : TypeId) (pv : Value) (older : List PanicEntry) (w : World) (hc : w.cell? p = some (.bool x)) (hz : w.frozen? p = false) :
    CallsD Tryd.prog 36 #[.pointer (some p)] (.panicking ({ v := .iface u pv, recovered := false } :: older)) w fun e u' w' =>
      e = .returned (.tuple #[]) ∧ u' = .panicking ({ v := .iface u pv, recovered := true } :: older) ∧ w' = w.setCell p (.bool true) := by
  refine callsD_of_wpS Tryd.func36 rfl fun c₀ cs hu => ?_
  apply wpS_region
  simp [wpOpsS, go_sem, recoverD, hu, Tryd.ntmps36, Exit.thenS]
  simp [wpOpsS, go_sem, hc, hz, bodyPostS, results, Tryd.results36]
set_option maxRecDepth 100000 in
theorem catch_idle (p : Addr) (x : Bool) (w : World) (hc : w.cell? p = some (.bool x)) (hz : w.frozen? p = false) :
    CallsD Tryd.prog 36 #[.pointer (some p)] .returning w fun e u' w' => e = .returned (.tuple #[]) ∧ u' = .returning ∧ w' = w.setCell p (.bool false) := by
  refine callsD_of_wpS Tryd.func36 rfl fun c₀ cs hu => ?_
  apply wpS_region
  simp [wpOpsS, go_sem, recoverD, hu, Tryd.ntmps36, Exit.thenS]
  cases c₀
  simp_all [wpOpsS, go_sem, bodyPostS, results, Tryd.results36]
set_option maxRecDepth 100000 in
theorem panics_nil  (w : World) : Calls Tryd.prog 15 #[.nilIface] w fun e w' => e = .returned (.bool true) ∧ Below w.heap.size w w' := by
  have hmf : ∀ (fn : Fn) (first cap : Array Value) (w : World), (Instr.makeFunc fn first cap).run Tryd.prog w = .ok (.func fn first cap) w := fun _ _ _ _ => rfl
  have MU := Lib.hid (fun w => must_nil w)
  go_enter_defers Tryd.func15, Tryd.ntmps15
  go_wp2_with fail
  refine (MU.out _).mono ?_
  rintro e w1 ⟨u, pv, rfl, hb1⟩
  have c0 : w1.cell? ⟨w.heap.size, 0, none⟩ = some (.bool false) := cell_below (by simp [go_sem]) hb1
  have f0 : w1.frozen? ⟨w.heap.size, 0, none⟩ = false := (hb1.frozen (by simp)).trans (by simp [go_sem])
  have hbw : Below w.heap.size w w1 := ((Below.refl w.heap.size w).alloc (Nat.le_refl _) _).trans (hb1.mono (by simp))
  have HB := Lib.hid hbw
  clear hb1 hbw MU
  go_wp2_with fail
  refine leaves_cons (f := 36) (args := #[.pointer (some ⟨w.heap.size, 0, none⟩)]) (by simp) (by simp [go_sem]) ?_
  refine (catch_panicking ⟨w.heap.size, 0, none⟩ false u pv [] _ c0 f0).mono ?_
  rintro e u' w'' ⟨rfl, rfl, rfl⟩
  have c1 : (w1.setCell ⟨w.heap.size, 0, none⟩ (.bool true)).cell? ⟨w.heap.size, 0, none⟩ = some (.bool true) := World.cell?_setCell_same _ _ _ c0
  simp [Leaves, settle, results, Tryd.results15, go_sem, c1]
  exact HB.out.setCell (p := ⟨w.heap.size, 0, none⟩) (by simp) _
set_option maxRecDepth 100000 in
theorem panics_blank (s : ByteArray) (w : World) : Calls Tryd.prog 15 #[.iface 62 (.agg #[.string s])] w fun e w' => e = .returned (.bool true) ∧ Below w.heap.size w w' := by
  have hmf : ∀ (fn : Fn) (first cap : Array Value) (w : World), (Instr.makeFunc fn first cap).run Tryd.prog w = .ok (.func fn first cap) w := fun _ _ _ _ => rfl
  have MU := Lib.hid (fun w => must_blank s w)
  go_enter_defers Tryd.func15, Tryd.ntmps15
  go_wp2_with fail
  refine (MU.out _).mono ?_
  rintro e w1 ⟨u, pv, rfl, hb1⟩
  have c0 : w1.cell? ⟨w.heap.size, 0, none⟩ = some (.bool false) := cell_below (by simp [go_sem]) hb1
  have f0 : w1.frozen? ⟨w.heap.size, 0, none⟩ = false := (hb1.frozen (by simp)).trans (by simp [go_sem])
  have hbw : Below w.heap.size w w1 := ((Below.refl w.heap.size w).alloc (Nat.le_refl _) _).trans (hb1.mono (by simp))
  have HB := Lib.hid hbw
  clear hb1 hbw MU
  go_wp2_with fail
  refine leaves_cons (f := 36) (args := #[.pointer (some ⟨w.heap.size, 0, none⟩)]) (by simp) (by simp [go_sem]) ?_
  refine (catch_panicking ⟨w.heap.size, 0, none⟩ false u pv [] _ c0 f0).mono ?_
  rintro e u' w'' ⟨rfl, rfl, rfl⟩
  have c1 : (w1.setCell ⟨w.heap.size, 0, none⟩ (.bool true)).cell? ⟨w.heap.size, 0, none⟩ = some (.bool true) := World.cell?_setCell_same _ _ _ c0
  simp [Leaves, settle, results, Tryd.results15, go_sem, c1]
  exact HB.out.setCell (p := ⟨w.heap.size, 0, none⟩) (by simp) _
set_option maxRecDepth 100000 in
theorem panics_lit (s t l : ByteArray) (w : World) : Calls Tryd.prog 15 #[.iface 35 (.agg #[.string s, .string t, .string l])] w fun e w' => e = .returned (.bool true) ∧ Below w.heap.size w w' := by
  have hmf : ∀ (fn : Fn) (first cap : Array Value) (w : World), (Instr.makeFunc fn first cap).run Tryd.prog w = .ok (.func fn first cap) w := fun _ _ _ _ => rfl
  have MU := Lib.hid (fun w => must_lit s t l w)
  go_enter_defers Tryd.func15, Tryd.ntmps15
  go_wp2_with fail
  refine (MU.out _).mono ?_
  rintro e w1 ⟨u, pv, rfl, hb1⟩
  have c0 : w1.cell? ⟨w.heap.size, 0, none⟩ = some (.bool false) := cell_below (by simp [go_sem]) hb1
  have f0 : w1.frozen? ⟨w.heap.size, 0, none⟩ = false := (hb1.frozen (by simp)).trans (by simp [go_sem])
  have hbw : Below w.heap.size w w1 := ((Below.refl w.heap.size w).alloc (Nat.le_refl _) _).trans (hb1.mono (by simp))
  have HB := Lib.hid hbw
  clear hb1 hbw MU
  go_wp2_with fail
  refine leaves_cons (f := 36) (args := #[.pointer (some ⟨w.heap.size, 0, none⟩)]) (by simp) (by simp [go_sem]) ?_
  refine (catch_panicking ⟨w.heap.size, 0, none⟩ false u pv [] _ c0 f0).mono ?_
  rintro e u' w'' ⟨rfl, rfl, rfl⟩
  have c1 : (w1.setCell ⟨w.heap.size, 0, none⟩ (.bool true)).cell? ⟨w.heap.size, 0, none⟩ = some (.bool true) := World.cell?_setCell_same _ _ _ c0
  simp [Leaves, settle, results, Tryd.results15, go_sem, c1]
  exact HB.out.setCell (p := ⟨w.heap.size, 0, none⟩) (by simp) _
set_option maxRecDepth 100000 in
theorem panics_odd (n : Int) (w : World) : Calls Tryd.prog 15 #[.iface 64 (.agg #[.int .i64 n])] w fun e w' => e = .returned (.bool true) ∧ Below w.heap.size w w' := by
  have hmf : ∀ (fn : Fn) (first cap : Array Value) (w : World), (Instr.makeFunc fn first cap).run Tryd.prog w = .ok (.func fn first cap) w := fun _ _ _ _ => rfl
  have MU := Lib.hid (fun w => must_odd n w)
  go_enter_defers Tryd.func15, Tryd.ntmps15
  go_wp2_with fail
  refine (MU.out _).mono ?_
  rintro e w1 ⟨u, pv, rfl, hb1⟩
  have c0 : w1.cell? ⟨w.heap.size, 0, none⟩ = some (.bool false) := cell_below (by simp [go_sem]) hb1
  have f0 : w1.frozen? ⟨w.heap.size, 0, none⟩ = false := (hb1.frozen (by simp)).trans (by simp [go_sem])
  have hbw : Below w.heap.size w w1 := ((Below.refl w.heap.size w).alloc (Nat.le_refl _) _).trans (hb1.mono (by simp))
  have HB := Lib.hid hbw
  clear hb1 hbw MU
  go_wp2_with fail
  refine leaves_cons (f := 36) (args := #[.pointer (some ⟨w.heap.size, 0, none⟩)]) (by simp) (by simp [go_sem]) ?_
  refine (catch_panicking ⟨w.heap.size, 0, none⟩ false u pv [] _ c0 f0).mono ?_
  rintro e u' w'' ⟨rfl, rfl, rfl⟩
  have c1 : (w1.setCell ⟨w.heap.size, 0, none⟩ (.bool true)).cell? ⟨w.heap.size, 0, none⟩ = some (.bool true) := World.cell?_setCell_same _ _ _ c0
  simp [Leaves, settle, results, Tryd.results15, go_sem, c1]
  exact HB.out.setCell (p := ⟨w.heap.size, 0, none⟩) (by simp) _
set_option maxRecDepth 100000 in
theorem panics_iri (s : ByteArray) (w : World) : Calls Tryd.prog 15 #[.iface 53 (.agg #[.string s])] w fun e w' => e = .returned (.bool false) ∧ Below w.heap.size w w' := by
  have hmf : ∀ (fn : Fn) (first cap : Array Value) (w : World), (Instr.makeFunc fn first cap).run Tryd.prog w = .ok (.func fn first cap) w := fun _ _ _ _ => rfl
  have MU := Lib.hid (fun w => must_iri s w)
  go_enter_defers Tryd.func15, Tryd.ntmps15
  go_wp2_with fail
  refine (MU.out _).mono ?_
  rintro e w1 ⟨rfl, hb1⟩
  have c0 : w1.cell? ⟨w.heap.size, 0, none⟩ = some (.bool false) := cell_below (by simp [go_sem]) hb1
  have f0 : w1.frozen? ⟨w.heap.size, 0, none⟩ = false := (hb1.frozen (by simp)).trans (by simp [go_sem])
  have hbw : Below w.heap.size w w1 := ((Below.refl w.heap.size w).alloc (Nat.le_refl _) _).trans (hb1.mono (by simp))
  have HB := Lib.hid hbw
  clear hb1 hbw MU
  go_wp2_with fail
  have c1 : (w1.setCell ⟨w.heap.size, 0, none⟩ (.bool false)).cell? ⟨w.heap.size, 0, none⟩ = some (.bool false) := World.cell?_setCell_same _ _ _ c0
  have f1 : (w1.setCell ⟨w.heap.size, 0, none⟩ (.bool false)).frozen? ⟨w.heap.size, 0, none⟩ = false := (World.frozen?_setCell _ _ _ _).trans f0
  refine leaves_cons (f := 36) (args := #[.pointer (some ⟨w.heap.size, 0, none⟩)]) (by simp) (by simp [go_sem]) ?_
  refine (catch_idle ⟨w.heap.size, 0, none⟩ false _ c1 f1).mono ?_
  rintro e u' w'' ⟨rfl, rfl, rfl⟩
  have c2 : ((w1.setCell ⟨w.heap.size, 0, none⟩ (.bool false)).setCell ⟨w.heap.size, 0, none⟩ (.bool false)).cell? ⟨w.heap.size, 0, none⟩ = some (.bool false) := World.cell?_setCell_same _ _ _ c1
  simp [Leaves, settle, results, Tryd.results15, go_sem, c2]
  exact (HB.out.setCell (p := ⟨w.heap.size, 0, none⟩) (by simp) _).setCell (p := ⟨w.heap.size, 0, none⟩) (by simp) _
end Go.Proofs.YteeajhnbifpklaaDoor
