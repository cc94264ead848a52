/- The laws WindowFirsts answers true at every shape and time: the first window that closes behind a time does, the one ahead of it doesn't; what is needed of a mark is that one's opening. No condition. -/
import Derived.Test.YthfffgdelllcdaaAt
namespace Go.Proofs.Ythfffgdelllcdaa
open Go.RowKit
theorem runV_get (F : Int) (n j : Nat) (h : j < n) : (runV F n)[j]? = some (.int .i64 (F + j)) := by
  unfold runV; rw [List.getElem?_map, List.getElem?_range h]; rfl
/-- what At tells, as the walk reads it -/
theorem at_cells {w : World} {B : Nat} {T : TypeId} {v : Value} {F : Int} {n : Nat} (h : w.ownsRow B T 1 v (n + 1) (runV F (n + 1))) :
    ∃ g cap, v = .slice (some ⟨g, 0, none⟩) (n + 1) cap ∧ ∀ j, j < n + 1 → w.cell? ⟨g, j, none⟩ = some (.int .i64 (F + j)) := by
  obtain ⟨_, (⟨_, h0⟩ | ⟨g, cap, cur, rfl, _⟩)⟩ := id h
  · omega
  · refine ⟨g, cap, rfl, fun j hj => ?_⟩
    rw [h.cellAt j (by omega), runV_get F (n + 1) j hj]
theorem sh_awake : Sh 10 5 0 := by unfold Sh; omega
theorem awake_any (w : World) : Calls Try.prog 10 #[] w fun e w' => e = .returned (.bool true) ∧ Below w.heap.size w w' := by
  have hm : manyV 10 5 0 7 = 2 := by decide
  have hf : firstV 10 5 0 7 = 0 := by decide
  have HA := Lib.hid (at_ok 10 5 0 7 w sh_awake (by omega) (by omega) (by omega))
  rw [hm, hf] at HA
  clear hm hf
  go_enter Try.func10, Try.ntmps10
  go_wp2_with fail
  refine HA.out.mono ?_
  rintro e w' ⟨v, rfl, ho, hb⟩
  obtain ⟨g, cap, rfl, hc⟩ := at_cells (n := 1) ho
  have c0 := hc 0 (by omega)
  have c1 := hc 1 (by omega)
  clear hc ho
  simp at c0 c1
  go_wp2
  go_ret
  exact ⟨rfl, hb⟩
set_option maxHeartbeats 800000 in
theorem firsts_walk (a b c t : Int) (w : World) :
    Calls Try.prog 3 #[.agg #[.int .i64 a, .int .i64 b, .int .i64 c], .int .i64 t] w fun e w' => e = .returned (.bool true) ∧ Below w.heap.size w w' := by
  go_enter Try.func3, Try.ntmps3
  go_wp2_with fail
  refine (awake_any _).mono ?_
  rintro e w1 ⟨rfl, hb1⟩
  have x0 : w1.cell? ⟨w.heap.size, 0, none⟩ = some (.int .i64 a) := cell_below (by rw [World.cell?_alloc_mark]; rfl) hb1
  have x1 : w1.cell? ⟨w.heap.size, 1, none⟩ = some (.int .i64 b) := cell_below (by rw [World.cell?_alloc_mark]; rfl) hb1
  have x2 : w1.cell? ⟨w.heap.size, 2, none⟩ = some (.int .i64 c) := cell_below (by rw [World.cell?_alloc_mark]; rfl) hb1
  have z1 := ((Below.refl w.heap.size w).alloc (Nat.le_refl _) _).trans (hb1.mono (by simp))
  clear hb1
  go_wp2_with fail
  refine (shape_any a b c _).mono ?_
  rintro e w2 ⟨W, S, B, hS, rfl, hb2⟩
  have z2 := z1.trans (hb2.mono z1.size)
  clear hb2 x0 x1 x2 z1
  obtain ⟨f1, f2⟩ := first_bd hS t
  obtain ⟨m1, m2⟩ := first_mul hS t
  have hcl := first_closes hS t
  have hle := first_least hS t
  have hh := held_bd t
  have hfh := first_held W S B t
  obtain ⟨h1, h2, h3, h4, h5, h6⟩ := id hS
  have HH := Lib.hid hfh; clear hfh
  go_wp2_with fail
  refine (lheld_any _ _).mono ?_
  rintro e w' ⟨rfl, rfl⟩
  go_wp2_with fail
  refine (first_any W S B t _ hS).mono ?_
  rintro e w3 ⟨rfl, hb3⟩
  have k3 := kept_step (boxed w2 W S B _) hb3
  clear hb3
  obtain ⟨c1, c2, c3, c4⟩ := k3
  have hcl' : ¬(B + firstV W S B t * S + W ≤ heldV t) := by omega
  by_cases hp : 0 < firstV W S B t
  · have hle' := hle hp
    clear hle hcl
    go_wp2_with fail
    refine (needed_any W S B t _ hS).mono ?_
    rintro e w4 ⟨rfl, hb4⟩
    have k4 := kept_step ⟨c1, c2, c3, c4⟩ hb4
    clear hb4 c1 c2 c3 c4
    obtain ⟨c1, c2, c3, c4⟩ := k4
    go_wp2_with fail
    refine (first_any W S B (heldV t) _ hS).mono ?_
    rintro e w5 ⟨rfl, hb5⟩
    rw [HH.out]
    have k5 := kept_step ⟨c1, c2, c3, c4⟩ hb5
    go_wp2_with fail
    go_ret
    exact ⟨rfl, z2.trans (k5.2.2.2.mono z2.size)⟩
  · clear hle hcl
    go_wp2_with fail
    refine (needed_any W S B t _ hS).mono ?_
    rintro e w4 ⟨rfl, hb4⟩
    have k4 := kept_step ⟨c1, c2, c3, c4⟩ hb4
    clear hb4 c1 c2 c3 c4
    obtain ⟨c1, c2, c3, c4⟩ := k4
    go_wp2_with fail
    refine (first_any W S B (heldV t) _ hS).mono ?_
    rintro e w5 ⟨rfl, hb5⟩
    rw [HH.out]
    have k5 := kept_step ⟨c1, c2, c3, c4⟩ hb5
    go_wp2_with fail
    go_ret
    exact ⟨rfl, z2.trans (k5.2.2.2.mono z2.size)⟩
end Go.Proofs.Ythfffgdelllcdaa
