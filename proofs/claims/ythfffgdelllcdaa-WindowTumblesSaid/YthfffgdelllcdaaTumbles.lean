/- The law WindowTumbles answers true at every shape and time: of a tumbling shape each time from its beginning on is in just one window. No condition. -/
import Derived.Test.YthfffgdelllcdaaFirsts
namespace Go.Proofs.Ythfffgdelllcdaa
open Go.RowKit
theorem tumbles_beyond (a b c t : Int) (w : World) (ht : t < -1152921504606846976 ∨ 1152921504606846976 < t) :
    Calls Try.prog 4 #[.agg #[.int .i64 a, .int .i64 b, .int .i64 c], .int .i64 t] w fun e w' => e = .returned (.bool true) ∧ Below w.heap.size w w' := by
  rcases ht with ht | ht
  all_goals
    go_enter Try.func4, Try.ntmps4
    go_wp2_with fail
    refine (awake_any _).mono ?_
    rintro e w1 ⟨rfl, hb1⟩
    have z1 := ((Below.refl w.heap.size w).alloc (Nat.le_refl _) _).trans (hb1.mono (by simp))
    clear hb1
    go_wp2_with fail
    refine (awake_any _).mono ?_
    rintro e w2 ⟨rfl, hb2⟩
    have z2 := z1.trans (hb2.mono z1.size)
    clear hb2 z1
    go_wp2_with fail
    go_ret
    exact ⟨rfl, z2⟩
theorem tumbling_yes (W B : Int) (w : World) :
    Calls Try.prog 17 #[.agg #[.int .i64 W, .int .i64 W, .int .i64 B]] w fun e w' => e = .returned (.bool true) ∧ Below w.heap.size w w' := by
  go_enter Try.func17, Try.ntmps17
  go_wp2
  go_ret
  exact ⟨rfl, (Below.refl _ _).alloc (Nat.le_refl _) _⟩
theorem own_zero {w : World} {B : Nat} {T : TypeId} {v : Value} {xs : List Value} (h : w.ownsRow B T 1 v 0 xs) : ∃ (a : Option Addr) (cap : Nat), v = .slice a 0 cap := by
  obtain ⟨_, (⟨rfl, _⟩ | ⟨g, cap, _, rfl, _⟩)⟩ := h
  · exact ⟨none, 0, rfl⟩
  · exact ⟨_, cap, rfl⟩
/-- a boxed shape, and one cell besides, stay as they are -/
theorem kept_four {w wr wr' : World} {W S B q : Int} {b g : Nat} (h : wr.cell? ⟨b, 0, none⟩ = some (.int .i64 W) ∧ wr.cell? ⟨b, 1, none⟩ = some (.int .i64 S) ∧ wr.cell? ⟨b, 2, none⟩ = some (.int .i64 B) ∧ wr.cell? ⟨g, 0, none⟩ = some (.int .i64 q) ∧ Below w.heap.size w wr)
    (hb : Below wr.heap.size wr wr') :
    wr'.cell? ⟨b, 0, none⟩ = some (.int .i64 W) ∧ wr'.cell? ⟨b, 1, none⟩ = some (.int .i64 S) ∧ wr'.cell? ⟨b, 2, none⟩ = some (.int .i64 B) ∧ wr'.cell? ⟨g, 0, none⟩ = some (.int .i64 q) ∧ Below w.heap.size w wr' := by
  obtain ⟨h1, h2, h3, h4, h5⟩ := h
  exact ⟨cell_below h1 hb, cell_below h2 hb, cell_below h3 hb, cell_below h4 hb, h5.trans (hb.mono h5.size)⟩
set_option maxHeartbeats 1600000 in
theorem tumbles_out (a b c t : Int) (w : World) (t1 : -1152921504606846976 ≤ t) (t2 : t ≤ 1152921504606846976) :
    Calls Try.prog 4 #[.agg #[.int .i64 a, .int .i64 b, .int .i64 c], .int .i64 t] w fun e w' => e = .returned (.bool true) ∧ Below w.heap.size w w' := by
  go_enter Try.func4, Try.ntmps4
  go_wp2_with fail
  refine (awake_any _).mono ?_
  rintro e w1 ⟨rfl, hb1⟩
  have x0 : w1.cell? ⟨w.heap.size, 0, none⟩ = some (.int .i64 a) := cell_below (by rw [World.cell?_alloc_mark]; rfl) hb1
  have x1 : w1.cell? ⟨w.heap.size, 1, none⟩ = some (.int .i64 b) := cell_below (by rw [World.cell?_alloc_mark]; rfl) hb1
  have x2 : w1.cell? ⟨w.heap.size, 2, none⟩ = some (.int .i64 c) := cell_below (by rw [World.cell?_alloc_mark]; rfl) hb1
  have z1 := ((Below.refl w.heap.size w).alloc (Nat.le_refl _) _).trans (hb1.mono (by simp))
  clear hb1
  go_wp2_with fail
  refine (shape_any a b c _).mono ?_
  rintro e w2 ⟨W, S, B, hS, rfl, hb2⟩
  have z2 := z1.trans (hb2.mono z1.size)
  clear hb2 x0 x1 x2 z1
  have hT : Sh W W B := ⟨hS.1, hS.2.1, hS.1, hS.2.1, hS.2.2.2.2.1, hS.2.2.2.2.2⟩
  clear hS
  by_cases hb : t < B
  · obtain ⟨ef, em⟩ := tumble_out hT t t1 t2 hb
    have hA := at_ok W W B t
    have HM := Lib.hid em; have HF := Lib.hid ef; have HA := Lib.hid hA
    clear ef em hA
    go_wp2_with fail
    refine (HA.out _ hT t1 t2 (by rw [HM.out]; omega)).mono ?_
    rw [HM.out, HF.out]
    rintro e w3 ⟨v, rfl, ho, hb3⟩
    have k3 := kept_step (boxed w2 W W B _) hb3
    clear hb3
    obtain ⟨c1, c2, c3, c4⟩ := k3
    obtain ⟨a0, cap0, rfl⟩ := own_zero ho
    clear ho
    go_wp2_with fail
    refine (many_any W W B t _ hT).mono ?_
    rintro e w4 ⟨rfl, hb4⟩
    rw [HM.out]
    have k4 := kept_step ⟨c1, c2, c3, c4⟩ hb4
    clear hb4 c1 c2 c3 c4
    obtain ⟨c1, c2, c3, c4⟩ := k4
    go_wp2_with fail
    refine (first_any W W B t _ hT).mono ?_
    rintro e w5 ⟨rfl, hb5⟩
    rw [HF.out]
    have k5 := kept_step ⟨c1, c2, c3, c4⟩ hb5
    clear hb5 c1 c2 c3 c4
    go_wp2_with fail
    go_ret
    exact ⟨rfl, z2.trans (k5.2.2.2.mono z2.size)⟩
  · obtain ⟨ef, em⟩ := tumble_in hT t t1 t2 (by omega)
    have hA := at_ok W W B t
    have HM := Lib.hid em; have HF := Lib.hid ef; have HA := Lib.hid hA
    obtain ⟨w1', w2', w3', w4', w5', w6'⟩ := id hT
    have hq0 : 0 ≤ (t - B) / W := Int.ediv_nonneg (by omega) (by omega)
    have hqd : (t - B).tdiv W = (t - B) / W := Int.tdiv_eq_ediv_of_nonneg (by omega)
    have hqb := div_bd (t - B) W 4611686018427387904 w1' (by omega) (by omega) (by omega)
    obtain ⟨hq1, hq2⟩ := hqb
    have hW0 : ¬W = 0 := by omega
    have hW1 : (W == 0) = false := by simp [hW0]
    have hwq : IntKind.i64.wrap ((t - B) / W) = (t - B) / W := IntWalk.i64_in _ ⟨by omega, by omega⟩
    have hws : IntKind.i64.wrap (t - B) = t - B := IntWalk.i64_in _ ⟨by omega, by omega⟩
    clear ef em hA
    go_wp2_with fail
    refine (HA.out _ hT t1 t2 (by rw [HM.out]; omega)).mono ?_
    rw [HM.out, HF.out]
    rintro e w3 ⟨v, rfl, ho, hb3⟩
    have k3 := kept_step (boxed w2 W W B _) hb3
    clear hb3
    obtain ⟨c1, c2, c3, c4⟩ := k3
    obtain ⟨g, cap, rfl, hc⟩ := at_cells (n := 0) ho
    have c0 := hc 0 (by omega)
    clear hc ho
    simp only [Int.natCast_zero, Int.add_zero] at c0
    go_wp2_with fail
    go_region_held3 (fun w' => w'.cell? ⟨w2.heap.size, 0, none⟩ = some (.int .i64 W) ∧ w'.cell? ⟨w2.heap.size, 1, none⟩ = some (.int .i64 W) ∧ w'.cell? ⟨w2.heap.size, 2, none⟩ = some (.int .i64 B) ∧ w'.cell? ⟨g, 0, none⟩ = some (.int .i64 ((t - B) / W)) ∧ Below w2.heap.size w2 w') (first | assumption | exact kept_four (by assumption) hb | exact ⟨c1, c2, c3, c0, c4⟩ | exact ⟨c1, c2, c3, c0, c4.drew⟩)  (first
      | (go_at_call 17; refine (tumbling_yes W B _).mono ?_; rintro e w' ⟨rfl, hb⟩)
      | (go_at_call 16; refine (many_any W W B t _ hT).mono ?_; rintro e w' ⟨rfl, hb⟩; rw [HM.out])
      | (go_at_call 13; refine (first_any W W B t _ hT).mono ?_; rintro e w' ⟨rfl, hb⟩; rw [HF.out]))
    go_wp2
    go_ret
    exact ⟨rfl, by obtain ⟨_, _, _, _, hh⟩ := ‹_ ∧ _ ∧ _ ∧ _ ∧ Below w2.heap.size w2 w'›; exact z2.trans (hh.mono z2.size)⟩
theorem tumbles_walk (a b c t : Int) (w : World) :
    Calls Try.prog 4 #[.agg #[.int .i64 a, .int .i64 b, .int .i64 c], .int .i64 t] w fun e w' => e = .returned (.bool true) ∧ Below w.heap.size w w' := by
  by_cases h1 : t < -1152921504606846976
  · exact tumbles_beyond a b c t w (.inl h1)
  · by_cases h2 : 1152921504606846976 < t
    · exact tumbles_beyond a b c t w (.inr h2)
    · exact tumbles_out a b c t w (by omega) (by omega)
end Go.Proofs.Ythfffgdelllcdaa
