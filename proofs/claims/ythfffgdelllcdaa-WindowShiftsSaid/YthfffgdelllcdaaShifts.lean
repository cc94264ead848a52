/- The law WindowShifts answers true at every shape and number: a shape that begins one slide later has the same windows, each with a number one less. No condition. -/
import Derived.Test.YthfffgdelllcdaaFirsts
import Derived.Test.YthfffgdelllcdaaWindow
namespace Go.Proofs.Ythfffgdelllcdaa
open Go.RowKit
theorem next_mul (n S B : Int) : (n + 1) * S + B = n * S + (B + S) := by rw [Int.add_mul, Int.one_mul]; omega
set_option maxHeartbeats 1600000 in
theorem shifts_walk (a b c n : Int) (n0 : 0 ≤ n) (n1 : n ≤ 4294967295) (w : World) :
    Calls Try.prog 5 #[.agg #[.int .i64 a, .int .i64 b, .int .i64 c], .int .u32 n] w fun e w' => e = .returned (.bool true) ∧ Below w.heap.size w w' := by
  go_enter Try.func5, Try.ntmps5
  go_wp2_with fail
  refine (awake_any _).mono ?_
  rintro e w1 ⟨rfl, hb1⟩
  have x0 : w1.cell? ⟨w.heap.size, 0, none⟩ = some (.int .i64 a) := cell_below (by rw [World.cell?_alloc_mark]; rfl) hb1
  have x1 : w1.cell? ⟨w.heap.size, 1, none⟩ = some (.int .i64 b) := cell_below (by rw [World.cell?_alloc_mark]; rfl) hb1
  have x2 : w1.cell? ⟨w.heap.size, 2, none⟩ = some (.int .i64 c) := cell_below (by rw [World.cell?_alloc_mark]; rfl) hb1
  have z1 := ((Below.refl w.heap.size w).alloc (Nat.le_refl _) _).trans (hb1.mono (by simp))
  clear hb1
  go_wp2_with fail
  refine (shape_any a b c _).mono ?_
  rintro e w2 ⟨W, S, B, hS, rfl, hb2⟩
  have z2 := z1.trans (hb2.mono z1.size)
  clear hb2 x0 x1 x2 z1
  obtain ⟨h1, h2, h3, h4, h5, h6⟩ := id hS
  by_cases hg : 1099511627776 < B + S
  · go_wp2_with fail
    go_ret
    exact ⟨rfl, z2.alloc z2.size _⟩
  · have hT : Sh W S (B + S) := ⟨h1, h2, h3, h4, by omega, by omega⟩
    have HN := Lib.hid (next_mul n S B)
    by_cases ho : n * S + (B + S) ≤ 2305843009213693952 - W
    · have HO := Lib.hid ho
      have HO2 : Hid ((n + 1) * S + B ≤ 2305843009213693952 - W) := Lib.hid (by rw [HN.out]; exact ho)
      clear ho
      go_wp2_with fail
      refine (window_ok W S (B + S) n _ hT n0 (by omega) HO.out).mono ?_
      rintro e w3 ⟨rfl, hb3⟩
      have k3 := kept_step (kept_step (boxed w2 W S B _) ((Below.refl _ _).alloc (Nat.le_refl _) _)) hb3
      clear hb3
      obtain ⟨c1, c2, c3, c4⟩ := k3
      have hlt : w2.heap.size < w3.heap.size := block_lt_of_cell c1
      go_wp2_with fail
      refine (window_ok W S B (n + 1) _ hS (by omega) (by omega) HO2.out).mono ?_
      rintro e w4 ⟨rfl, hb4⟩
      rw [HN.out]
      have d0 : w4.cell? ⟨w3.heap.size, 0, none⟩ = some (.int .i64 (n * S + (B + S))) := cell_below (by rw [World.cell?_alloc_mark]; rfl) hb4
      have d1 : w4.cell? ⟨w3.heap.size, 1, none⟩ = some (.int .i64 (n * S + (B + S) + W)) := cell_below (by rw [World.cell?_alloc_mark]; rfl) hb4
      have z4 : Below w.heap.size w w4 := (z2.trans (c4.mono z2.size)).trans (((Below.refl _ w3).alloc (Nat.le_refl _) _ |>.trans (hb4.mono (by simp))).mono (z2.trans (c4.mono z2.size)).size)
      have hlt2 : w3.heap.size < w4.heap.size := block_lt_of_cell d0
      clear hb4 c1 c2 c3 c4
      go_wp2_with fail
      go_ret
      exact ⟨rfl, z4.alloc z4.size _⟩
    · have HO : Hid (2305843009213693952 - W < n * S + (B + S)) := Lib.hid (by omega)
      have HO2 : Hid (2305843009213693952 - W < (n + 1) * S + B) := Lib.hid (by rw [HN.out]; exact HO.out)
      clear ho
      go_wp2_with fail
      refine (window_err W S (B + S) n _ hT (by omega) (by omega) (.inr HO.out)).mono ?_
      rintro e w3 ⟨rfl, hb3⟩
      have k3 := kept_step (kept_step (boxed w2 W S B _) ((Below.refl _ _).alloc (Nat.le_refl _) _)) hb3
      clear hb3
      obtain ⟨c1, c2, c3, c4⟩ := k3
      have hlt : w2.heap.size < w3.heap.size := block_lt_of_cell c1
      go_wp2_with fail
      refine (window_err W S B (n + 1) _ hS (by omega) (by omega) (.inr HO2.out)).mono ?_
      rintro e w4 ⟨rfl, hb4⟩
      have d0 : w4.cell? ⟨w3.heap.size, 0, none⟩ = some (.int .i64 (0)) := cell_below (by rw [World.cell?_alloc_mark]; rfl) hb4
      have d1 : w4.cell? ⟨w3.heap.size, 1, none⟩ = some (.int .i64 (0)) := cell_below (by rw [World.cell?_alloc_mark]; rfl) hb4
      have z4 : Below w.heap.size w w4 := (z2.trans (c4.mono z2.size)).trans (((Below.refl _ w3).alloc (Nat.le_refl _) _ |>.trans (hb4.mono (by simp))).mono (z2.trans (c4.mono z2.size)).size)
      have hlt2 : w3.heap.size < w4.heap.size := block_lt_of_cell d0
      clear hb4 c1 c2 c3 c4
      go_wp2_with fail
      go_ret
      exact ⟨rfl, z4.alloc z4.size _⟩
end Go.Proofs.Ythfffgdelllcdaa
