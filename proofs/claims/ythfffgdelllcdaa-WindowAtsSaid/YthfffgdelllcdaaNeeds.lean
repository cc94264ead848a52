/- The law WindowNeeds answers true at every shape, marks and number: a later mark needs nothing earlier, and no window closes behind it that opens ahead of what it needs. No condition. -/
import Derived.Test.YthfffgdelllcdaaFirsts
import Derived.Test.YthfffgdelllcdaaWindow
import Derived.Deep.RegionHeld3
namespace Go.Proofs.Ythfffgdelllcdaa
open Go.RowKit
/-- what is needed of a mark -/
def needV (W S B t : Int) : Int := B + firstV W S B t * S
theorem need_any (W S B t : Int) (w : World) (h : Sh W S B) :
    Calls Try.prog 14 #[.agg #[.int .i64 W, .int .i64 S, .int .i64 B], .int .i64 t] w fun e w' => e = .returned (.int .i64 (needV W S B t)) ∧ Below w.heap.size w w' := needed_any W S B t w h
theorem cell_alloc_keep {w : World} {a : Addr} {v : Value} (h : w.cell? a = some v) (o : Obj) : (w.alloc o).cell? a = some v := cell_below h ((Below.refl _ _).alloc (Nat.le_refl _) o)
theorem kept_five {w wr wr' : World} {W S B x y : Int} {b g : Nat} (h : wr.cell? ⟨b, 0, none⟩ = some (.int .i64 W) ∧ wr.cell? ⟨b, 1, none⟩ = some (.int .i64 S) ∧ wr.cell? ⟨b, 2, none⟩ = some (.int .i64 B) ∧ wr.cell? ⟨g, 0, none⟩ = some (.int .i64 x) ∧ wr.cell? ⟨g, 1, none⟩ = some (.int .i64 y) ∧ Below w.heap.size w wr)
    (hb : Below wr.heap.size wr wr') :
    wr'.cell? ⟨b, 0, none⟩ = some (.int .i64 W) ∧ wr'.cell? ⟨b, 1, none⟩ = some (.int .i64 S) ∧ wr'.cell? ⟨b, 2, none⟩ = some (.int .i64 B) ∧ wr'.cell? ⟨g, 0, none⟩ = some (.int .i64 x) ∧ wr'.cell? ⟨g, 1, none⟩ = some (.int .i64 y) ∧ Below w.heap.size w wr' := by
  obtain ⟨h1, h2, h3, h4, h5, h6⟩ := h
  exact ⟨cell_below h1 hb, cell_below h2 hb, cell_below h3 hb, cell_below h4 hb, cell_below h5 hb, h6.trans (hb.mono h6.size)⟩
set_option maxHeartbeats 3200000 in
theorem needs_walk (a b c p q n : Int) (n0 : 0 ≤ n) (n1 : n ≤ 65535) (w : World) :
    Calls Try.prog 6 #[.agg #[.int .i64 a, .int .i64 b, .int .i64 c], .agg #[.int .i64 p, .int .i64 q], .int .u16 n] w fun e w' => e = .returned (.bool true) ∧ Below w.heap.size w w' := by
  go_enter Try.func6, Try.ntmps6
  go_wp2_with fail
  refine (awake_any _).mono ?_
  rintro e w1 ⟨rfl, hb1⟩
  have x0 : w1.cell? ⟨w.heap.size, 0, none⟩ = some (.int .i64 a) := cell_below (by simp [go_sem]) hb1
  have x1 : w1.cell? ⟨w.heap.size, 1, none⟩ = some (.int .i64 b) := cell_below (by simp [go_sem]) hb1
  have x2 : w1.cell? ⟨w.heap.size, 2, none⟩ = some (.int .i64 c) := cell_below (by simp [go_sem]) hb1
  have y0 : w1.cell? ⟨w.heap.size + 1, 0, none⟩ = some (.int .i64 p) := cell_below (by simp [go_sem]) hb1
  have y1 : w1.cell? ⟨w.heap.size + 1, 1, none⟩ = some (.int .i64 q) := cell_below (by simp [go_sem]) hb1
  have z1 : Below w.heap.size w w1 := (((Below.refl w.heap.size w).alloc (Nat.le_refl _) _).alloc (by simp) _).trans (hb1.mono (by simp; omega))
  clear hb1
  go_wp2_with fail
  refine (shape_any a b c _).mono ?_
  rintro e w2 ⟨W, S, B, hS, rfl, hb2⟩
  have z2 := z1.trans (hb2.mono z1.size)
  have v0 := cell_below y0 hb2
  have v1 := cell_below y1 hb2
  clear hb2 x0 x1 x2 y0 y1 z1
  have hlt : w.heap.size + 1 < w2.heap.size := block_lt_of_cell v0
  obtain ⟨h1, h2, h3, h4, h5, h6⟩ := id hS
  go_wp2_with fail
  go_quiet ((go_at_call 12; exact Calls.quiet_of_same ((lheld_any _ _).mono (fun _ _ h => ⟨h.1, h.2.symm⟩))))
  have k3 : Hid ((((w2.alloc (.cells #[.int .i64 W, .int .i64 S, .int .i64 B] 25)).drewN nq).cell? ⟨w2.heap.size, 0, none⟩ = some (.int .i64 W)) ∧ (((w2.alloc (.cells #[.int .i64 W, .int .i64 S, .int .i64 B] 25)).drewN nq).cell? ⟨w2.heap.size, 1, none⟩ = some (.int .i64 S)) ∧
      (((w2.alloc (.cells #[.int .i64 W, .int .i64 S, .int .i64 B] 25)).drewN nq).cell? ⟨w2.heap.size, 2, none⟩ = some (.int .i64 B)) ∧ Below w2.heap.size w2 ((w2.alloc (.cells #[.int .i64 W, .int .i64 S, .int .i64 B] 25)).drewN nq)) := by
    obtain ⟨q1, q2, q3, q4⟩ := boxed w2 W S B 25
    exact Lib.hid ⟨q1, q2, q3, below_drewN q4 nq⟩
  generalize hw3 : (w2.alloc (.cells #[.int .i64 W, .int .i64 S, .int .i64 B] 25)).drewN nq = w3 at k3 ⊢
  clear hw3 v0 v1
  by_cases hpq : heldV p ≤ heldV q
  · skip
    have g1 : decide (needV W S B (heldV q) < needV W S B (heldV p)) = false := by unfold needV; have := needed_mono hS (heldV p) (heldV q) (by rw [held_held, held_held]; omega); simp; omega
    have g2 : decide (firstV W S B (heldV q) < firstV W S B (heldV p)) = false := by have := first_mono hS (heldV p) (heldV q) (by rw [held_held, held_held]; omega); simp; omega
    obtain ⟨c1, c2, c3, c4⟩ := k3.out
    go_wp2_with fail
    go_region_held3 (fun w' => w'.cell? ⟨w2.heap.size, 0, none⟩ = some (.int .i64 W) ∧ w'.cell? ⟨w2.heap.size, 1, none⟩ = some (.int .i64 S) ∧ w'.cell? ⟨w2.heap.size, 2, none⟩ = some (.int .i64 B) ∧ Below w2.heap.size w2 w') (first | assumption | exact kept_step (by assumption) hb | exact ⟨c1, c2, c3, c4⟩ | exact ⟨c1, c2, c3, c4.drew⟩) (first
      | (go_at_call 14; refine (need_any W S B _ _ hS).mono ?_; rintro e w' ⟨rfl, hb⟩)
      | (go_at_call 13; refine (first_any W S B _ _ hS).mono ?_; rintro e w' ⟨rfl, hb⟩))
    obtain ⟨d1, d2, d3, d4⟩ := ‹_ ∧ _ ∧ _ ∧ Below w2.heap.size w2 w'›
    have hlt2 : w2.heap.size < w'.heap.size := block_lt_of_cell d1
    have hn1 : n * S ≤ 65535 * 1099511627776 := Int.mul_le_mul n1 h4 (by omega) (by omega)
    clear c1 c2 c3 c4 k3 g1 g2
    go_wp2_with fail
    refine (window_ok W S B n _ hS n0 (by omega) (by omega)).mono ?_
    rintro e w5 ⟨rfl, hb5⟩
    have k5 := kept_step ⟨d1, d2, d3, d4⟩ hb5
    clear hb5 d1 d2 d3 d4
    obtain ⟨c1, c2, c3, c4⟩ := k5
    have hlt3 : w2.heap.size < w5.heap.size := block_lt_of_cell c1
    have hm0 : 0 ≤ n * S := Int.mul_nonneg n0 (by omega)
    have hh := held_bd p
    by_cases hc : n * S + B + W ≤ heldV p
    · have hcd : decide (n * S + B + W ≤ heldV p) = true := by simp [hc]
      go_wp2_with fail
      go_quiet (fail)
      go_wp2_with fail
      go_ret
      exact ⟨rfl, below_drewN ((z2.trans (c4.mono z2.size)).alloc (z2.trans (c4.mono z2.size)).size _) _⟩
    · have g3 : needV W S B (heldV p) ≤ n * S + B := needed_ok hS (heldV p) n (by rw [held_held]; omega) n0
      have hcd : decide (n * S + B + W ≤ heldV p) = false := by simp; omega
      have e0 := cell_alloc_keep c1 (.cells #[.int .i64 (n * S + B), .int .i64 (n * S + B + W)] 35)
      have e1 := cell_alloc_keep c2 (.cells #[.int .i64 (n * S + B), .int .i64 (n * S + B + W)] 35)
      have e2 := cell_alloc_keep c3 (.cells #[.int .i64 (n * S + B), .int .i64 (n * S + B + W)] 35)
      have o0 : (w5.alloc (.cells #[.int .i64 (n * S + B), .int .i64 (n * S + B + W)] 35)).cell? ⟨w5.heap.size, 0, none⟩ = some (.int .i64 (n * S + B)) := by rw [World.cell?_alloc_mark]; rfl
      have o1 : (w5.alloc (.cells #[.int .i64 (n * S + B), .int .i64 (n * S + B + W)] 35)).cell? ⟨w5.heap.size, 1, none⟩ = some (.int .i64 (n * S + B + W)) := by rw [World.cell?_alloc_mark]; rfl
      have e4 : Below w2.heap.size w2 (w5.alloc (.cells #[.int .i64 (n * S + B), .int .i64 (n * S + B + W)] 35)) := c4.alloc c4.size _
      have HE := Lib.hid (And.intro e0 (And.intro e1 (And.intro e2 (And.intro o0 (And.intro o1 e4)))))
      clear e0 e1 e2 o0 o1 e4
      go_wp2_with fail
      go_region_held3 (fun w' => w'.cell? ⟨w2.heap.size, 0, none⟩ = some (.int .i64 W) ∧ w'.cell? ⟨w2.heap.size, 1, none⟩ = some (.int .i64 S) ∧ w'.cell? ⟨w2.heap.size, 2, none⟩ = some (.int .i64 B) ∧ w'.cell? ⟨w5.heap.size, 0, none⟩ = some (.int .i64 (n * S + B)) ∧ w'.cell? ⟨w5.heap.size, 1, none⟩ = some (.int .i64 (n * S + B + W)) ∧ Below w2.heap.size w2 w') (first | assumption | exact kept_five (by assumption) hb | exact HE.out | exact ⟨HE.out.1, HE.out.2.1, HE.out.2.2.1, HE.out.2.2.2.1, HE.out.2.2.2.2.1, HE.out.2.2.2.2.2.drew⟩) (first
        | (go_at_call 14; refine (need_any W S B _ _ hS).mono ?_; rintro e w' ⟨rfl, hb⟩))
      obtain ⟨_, _, _, _, _, d4⟩ := ‹_ ∧ _ ∧ _ ∧ _ ∧ _ ∧ Below w2.heap.size w2 w'›
      go_wp2_with fail
      go_ret
      exact ⟨rfl, z2.trans (d4.mono z2.size)⟩
  · have hpq' : heldV q < heldV p := by omega
    have g1 : decide (needV W S B (heldV p) < needV W S B (heldV q)) = false := by unfold needV; have := needed_mono hS (heldV q) (heldV p) (by rw [held_held, held_held]; omega); simp; omega
    have g2 : decide (firstV W S B (heldV p) < firstV W S B (heldV q)) = false := by have := first_mono hS (heldV q) (heldV p) (by rw [held_held, held_held]; omega); simp; omega
    obtain ⟨c1, c2, c3, c4⟩ := k3.out
    go_wp2_with fail
    go_region_held3 (fun w' => w'.cell? ⟨w2.heap.size, 0, none⟩ = some (.int .i64 W) ∧ w'.cell? ⟨w2.heap.size, 1, none⟩ = some (.int .i64 S) ∧ w'.cell? ⟨w2.heap.size, 2, none⟩ = some (.int .i64 B) ∧ Below w2.heap.size w2 w') (first | assumption | exact kept_step (by assumption) hb | exact ⟨c1, c2, c3, c4⟩ | exact ⟨c1, c2, c3, c4.drew⟩) (first
      | (go_at_call 14; refine (need_any W S B _ _ hS).mono ?_; rintro e w' ⟨rfl, hb⟩)
      | (go_at_call 13; refine (first_any W S B _ _ hS).mono ?_; rintro e w' ⟨rfl, hb⟩))
    obtain ⟨d1, d2, d3, d4⟩ := ‹_ ∧ _ ∧ _ ∧ Below w2.heap.size w2 w'›
    have hlt2 : w2.heap.size < w'.heap.size := block_lt_of_cell d1
    have hn1 : n * S ≤ 65535 * 1099511627776 := Int.mul_le_mul n1 h4 (by omega) (by omega)
    clear c1 c2 c3 c4 k3 g1 g2
    go_wp2_with fail
    refine (window_ok W S B n _ hS n0 (by omega) (by omega)).mono ?_
    rintro e w5 ⟨rfl, hb5⟩
    have k5 := kept_step ⟨d1, d2, d3, d4⟩ hb5
    clear hb5 d1 d2 d3 d4
    obtain ⟨c1, c2, c3, c4⟩ := k5
    have hlt3 : w2.heap.size < w5.heap.size := block_lt_of_cell c1
    have hm0 : 0 ≤ n * S := Int.mul_nonneg n0 (by omega)
    have hh := held_bd q
    by_cases hc : n * S + B + W ≤ heldV q
    · have hcd : decide (n * S + B + W ≤ heldV q) = true := by simp [hc]
      go_wp2_with fail
      go_quiet (fail)
      go_wp2_with fail
      go_ret
      exact ⟨rfl, below_drewN ((z2.trans (c4.mono z2.size)).alloc (z2.trans (c4.mono z2.size)).size _) _⟩
    · have g3 : needV W S B (heldV q) ≤ n * S + B := needed_ok hS (heldV q) n (by rw [held_held]; omega) n0
      have hcd : decide (n * S + B + W ≤ heldV q) = false := by simp; omega
      have e0 := cell_alloc_keep c1 (.cells #[.int .i64 (n * S + B), .int .i64 (n * S + B + W)] 35)
      have e1 := cell_alloc_keep c2 (.cells #[.int .i64 (n * S + B), .int .i64 (n * S + B + W)] 35)
      have e2 := cell_alloc_keep c3 (.cells #[.int .i64 (n * S + B), .int .i64 (n * S + B + W)] 35)
      have o0 : (w5.alloc (.cells #[.int .i64 (n * S + B), .int .i64 (n * S + B + W)] 35)).cell? ⟨w5.heap.size, 0, none⟩ = some (.int .i64 (n * S + B)) := by rw [World.cell?_alloc_mark]; rfl
      have o1 : (w5.alloc (.cells #[.int .i64 (n * S + B), .int .i64 (n * S + B + W)] 35)).cell? ⟨w5.heap.size, 1, none⟩ = some (.int .i64 (n * S + B + W)) := by rw [World.cell?_alloc_mark]; rfl
      have e4 : Below w2.heap.size w2 (w5.alloc (.cells #[.int .i64 (n * S + B), .int .i64 (n * S + B + W)] 35)) := c4.alloc c4.size _
      have HE := Lib.hid (And.intro e0 (And.intro e1 (And.intro e2 (And.intro o0 (And.intro o1 e4)))))
      clear e0 e1 e2 o0 o1 e4
      go_wp2_with fail
      go_region_held3 (fun w' => w'.cell? ⟨w2.heap.size, 0, none⟩ = some (.int .i64 W) ∧ w'.cell? ⟨w2.heap.size, 1, none⟩ = some (.int .i64 S) ∧ w'.cell? ⟨w2.heap.size, 2, none⟩ = some (.int .i64 B) ∧ w'.cell? ⟨w5.heap.size, 0, none⟩ = some (.int .i64 (n * S + B)) ∧ w'.cell? ⟨w5.heap.size, 1, none⟩ = some (.int .i64 (n * S + B + W)) ∧ Below w2.heap.size w2 w') (first | assumption | exact kept_five (by assumption) hb | exact HE.out | exact ⟨HE.out.1, HE.out.2.1, HE.out.2.2.1, HE.out.2.2.2.1, HE.out.2.2.2.2.1, HE.out.2.2.2.2.2.drew⟩) (first
        | (go_at_call 14; refine (need_any W S B _ _ hS).mono ?_; rintro e w' ⟨rfl, hb⟩))
      obtain ⟨_, _, _, _, _, d4⟩ := ‹_ ∧ _ ∧ _ ∧ _ ∧ _ ∧ Below w2.heap.size w2 w'›
      go_wp2_with fail
      go_ret
      exact ⟨rfl, z2.trans (d4.mono z2.size)⟩
end Go.Proofs.Ythfffgdelllcdaa
