/- The law ValueQuotients answers true at every a and b. No condition. -/
import Derived.Test.YtfpelhacbmggeaaQuot
namespace Go.Proofs.Ytfpelhacbmggeaa
open Go.RowKit
theorem left_eq (a b : Int) : a + -(a.tdiv b * b) = a.tmod b := by
  have := Int.tdiv_mul_add_tmod a b
  omega
theorem down_eq (a b : Int) : a + -(a.fdiv b * b) = a.fmod b := by
  have := Int.fdiv_mul_add_fmod a b
  omega
theorem left_small (a b : Int) (hb : b ≠ 0) : szV (a.tmod b) < szV b ∧ (a.tmod b = 0 ∨ (decide (a.tmod b < 0) == decide (a < 0)) = true) := by
  have h1 : (a.tmod b).natAbs < b.natAbs := by
    rw [Int.natAbs_tmod]; exact Nat.mod_lt _ (by omega)
  refine ⟨by unfold szV; split <;> split <;> omega, ?_⟩
  by_cases h : a < 0
  · have := Int.tmod_nonneg (a := -a) b (by omega)
    rw [Int.neg_tmod] at this
    by_cases h0 : a.tmod b = 0
    · exact .inl h0
    · right; rw [decide_eq_true h, decide_eq_true (by omega)]; rfl
  · have := Int.tmod_nonneg (a := a) b (by omega)
    right; rw [decide_eq_false h, decide_eq_false (by omega)]; rfl
theorem down_small (a b : Int) (hb : b ≠ 0) : szV (a.fmod b) < szV b ∧ (a.fmod b = 0 ∨ (decide (a.fmod b < 0) == decide (b < 0)) = true) := by
  rcases (by omega : b < 0 ∨ 0 < b) with h | h
  · have h1 : b < a.fmod b ∧ a.fmod b ≤ 0 := by
      have e : a.fmod b = -((-a).fmod (-b)) := by rw [Int.neg_fmod_neg]; omega
      have h2 := Int.fmod_nonneg_of_pos (-a) (show 0 < -b by omega)
      have h3 := Int.fmod_lt_of_pos (-a) (show 0 < -b by omega)
      omega
    refine ⟨by unfold szV; rw [if_pos h]; split <;> omega, ?_⟩
    by_cases h0 : a.fmod b = 0
    · exact .inl h0
    · right; rw [decide_eq_true h, decide_eq_true (by omega)]; rfl
  · have h2 := Int.fmod_nonneg_of_pos a h
    have h3 := Int.fmod_lt_of_pos a h
    refine ⟨by unfold szV; rw [if_neg (by omega : ¬ b < 0)]; split <;> omega, ?_⟩
    right; rw [decide_eq_false (by omega), decide_eq_false (by omega)]; rfl
theorem quot_zero (a : Int) (w : World) :
    Calls Try.prog 4 #[.int .i64 a, .int .i64 0] w fun e w' => e = .returned (.bool true) ∧ Below w.heap.size w w' := by
  go_enter Try.func4, Try.ntmps4
  go_wp2_with fail
  refine (awake_both _).mono ?_
  rintro e w1 ⟨rfl, _, z⟩
  go_wp2_with fail
  refine (div_zero a _).mono ?_
  rintro e w' ⟨rfl, rfl⟩
  go_wp2_with fail
  refine (floor_zero a _).mono ?_
  rintro e w' ⟨rfl, rfl⟩
  go_wp2_with fail
  go_ret
  exact ⟨rfl, z⟩
set_option maxRecDepth 100000 in
theorem quot_over (w : World) :
    Calls Try.prog 4 #[.int .i64 (-9223372036854775808), .int .i64 (-1)] w fun e w' => e = .returned (.bool true) ∧ Below w.heap.size w w' := by
  go_enter Try.func4, Try.ntmps4
  go_wp2_with fail
  refine (awake_both _).mono ?_
  rintro e w1 ⟨rfl, _, z⟩
  go_wp2_with fail
  refine (div_over _).mono ?_
  rintro e w' ⟨rfl, rfl⟩
  go_wp2_with fail
  refine (floor_over _).mono ?_
  rintro e w' ⟨rfl, rfl⟩
  go_wp2_with fail
  go_ret
  exact ⟨rfl, z⟩
end Go.Proofs.Ytfpelhacbmggeaa
