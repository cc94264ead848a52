/- The law ValueOrders answers true at every a, b and c: the order of integers is a whole one, and that of their differences. No condition. -/
import Derived.Test.YtfpelhacbmggeaaTruth
import Derived.Test.YtfpelhacbmggeaaSub
namespace Go.Proofs.Ytfpelhacbmggeaa
open Go.RowKit
theorem ordV_bd (a b : Int) : -1 ≤ ordV a b ∧ ordV a b ≤ 1 := by unfold ordV; split <;> (try split) <;> omega
theorem ordV_neg (a b : Int) : ordV b a = -ordV a b := by unfold ordV; split <;> (try split) <;> (try split) <;> omega
theorem ordV_trans (a b c : Int) : ¬(ordV a b ≤ 0 ∧ ordV b c ≤ 0 ∧ 0 < ordV a c) := by
  unfold ordV; rintro ⟨h1, h2, h3⟩
  by_cases a < b <;> by_cases b < a <;> by_cases b < c <;> by_cases c < b <;> by_cases a < c <;> by_cases c < a <;> simp_all <;> omega
theorem ordV_sub (a b : Int) : ordV (a - b) 0 = ordV a b := by
  unfold ordV
  by_cases h1 : a < b
  · rw [if_pos h1, if_pos (by omega)]
  · rw [if_neg h1, if_neg (by omega)]
    by_cases h2 : b < a
    · rw [if_pos h2, if_pos (by omega)]
    · rw [if_neg h2, if_neg (by omega)]
set_option maxHeartbeats 400000 in
theorem orders_walk (a b c : Int) (w0 : (Lit.int .i64 a).wf = true) (w1 : (Lit.int .i64 b).wf = true) (w : World) :
    Calls Try.prog 6 #[.int .i64 a, .int .i64 b, .int .i64 c] w fun e w' => e = .returned (.bool true) ∧ Grown w w' := by
  obtain ⟨ha, ha'⟩ := bounds_i64 w0
  obtain ⟨hb, hb'⟩ := bounds_i64 w1
  clear w0 w1
  obtain ⟨x, hx⟩ : ∃ x, x = ordV a b := ⟨_, rfl⟩
  obtain ⟨y, hy⟩ : ∃ y, y = ordV b c := ⟨_, rfl⟩
  obtain ⟨z, hz⟩ : ∃ z, z = ordV a c := ⟨_, rfl⟩
  have b1 := ordV_bd a b
  have b2 := ordV_bd b c
  have b3 := ordV_bd a c
  have b4 := ordV_neg a b
  have b5 := ordV_trans a b c
  have b6 := ordV_sub a b
  rw [← hx] at b1 b4 b5 b6
  rw [← hy] at b2 b5
  rw [← hz] at b3 b5
  obtain ⟨x1, x2⟩ := b1
  obtain ⟨y1, y2⟩ := b2
  obtain ⟨z1, z2⟩ := b3
  have HX := Lib.hid hx; have HY := Lib.hid hy; have HZ := Lib.hid hz; have H4 := Lib.hid b4; have H6 := Lib.hid b6
  clear hx hy hz b4 b6
  by_cases hf : fits (a - b) = true
  · have HF := Lib.hid hf; clear hf
    go_enter Try.func6, Try.ntmps6
    go_wp2_with (first
      | (go_at_call 11; refine (awake_any _).mono ?_; rintro e w' ⟨rfl, hg⟩)
      | (go_at_call 24; refine (law_order_any _ _ _).mono ?_; rintro e w' ⟨rfl, rfl⟩; rw [← HX.out])
      | (go_at_call 25; refine (sub_ok a b _ ha ha' hb hb' HF.out).mono ?_; rintro e w' ⟨rfl, rfl⟩)
      | (go_at_call 23; refine (order_any _ _ _).mono ?_; rintro e w' ⟨rfl, rfl⟩; first | rw [← HX.out] | rw [← HY.out] | rw [← HZ.out] | rw [H4.out] | rw [H6.out]))
    all_goals (go_ret; exact ⟨rfl, hg⟩)
  · have hf : fits (a - b) = false := by simpa using hf
    have HF := Lib.hid hf; clear hf
    go_enter Try.func6, Try.ntmps6
    go_wp2_with (first
      | (go_at_call 11; refine (awake_any _).mono ?_; rintro e w' ⟨rfl, hg⟩)
      | (go_at_call 24; refine (law_order_any _ _ _).mono ?_; rintro e w' ⟨rfl, rfl⟩; rw [← HX.out])
      | (go_at_call 25; refine (sub_none a b _ ha ha' hb hb' HF.out).mono ?_; rintro e w' ⟨rfl, rfl⟩)
      | (go_at_call 23; refine (order_any _ _ _).mono ?_; rintro e w' ⟨rfl, rfl⟩; first | rw [← HX.out] | rw [← HY.out] | rw [← HZ.out] | rw [H4.out] | rw [H6.out]))
    all_goals (go_ret; exact ⟨rfl, hg⟩)
end Go.Proofs.Ytfpelhacbmggeaa
