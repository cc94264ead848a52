/- Plain laws on integers: quotients towards 0 and downwards, and their bounds. No program in sight. -/
import Derived.WalkKit
namespace Go.Proofs.Ytghimladdioajaa
open Go Go.RowKit

theorem int_eq {k : IntKind} {a b : Int} (h : a = b) : Value.int k a = .int k b := by rw [h]
theorem ret_one {v u : Value} (h : v = u) : Ending.returned v = .returned u := by rw [h]
theorem ret_two {v1 v2 u1 u2 : Value} (h1 : v1 = u1) (h2 : v2 = u2) : Ending.returned (.tuple #[v1, v2]) = .returned (.tuple #[u1, u2]) := by rw [h1, h2]
theorem ret_bool {a b : Bool} (h : a = b) : Ending.returned (.bool a) = .returned (.bool b) := by rw [h]
theorem natAbs_tdiv_le (a b : Int) : (a.tdiv b).natAbs ≤ a.natAbs := by
  rw [Int.natAbs_tdiv]; exact Nat.div_le_self _ _
theorem tdiv_half (a b : Int) (h : b ≠ 0) (h1 : b ≠ 1) (h2 : b ≠ -1) : (a.tdiv b).natAbs ≤ a.natAbs / 2 := by
  rw [Int.natAbs_tdiv]
  exact Nat.div_le_div_left (by omega) (by omega)

/-- the quotient fits, but for the least integer by -1 -/
theorem tdiv_bd (a b : Int) (ha : -9223372036854775808 ≤ a) (ha' : a ≤ 9223372036854775807) (hn : ¬(a = -9223372036854775808 ∧ b = -1)) :
    -9223372036854775808 ≤ a.tdiv b ∧ a.tdiv b ≤ 9223372036854775807 := by
  have h := natAbs_tdiv_le a b
  by_cases h0 : b = 0
  · subst h0; simp
  by_cases h1 : b = 1
  · subst h1; simp; omega
  by_cases h2 : b = -1
  · subst h2; omega
  have := tdiv_half a b h0 h1 h2
  omega
theorem wrap64_tdiv (a b : Int) (ha : -9223372036854775808 ≤ a) (ha' : a ≤ 9223372036854775807) (hn : ¬(a = -9223372036854775808 ∧ b = -1)) :
    wrap64 (a.tdiv b) = a.tdiv b := by
  have := tdiv_bd a b ha ha' hn
  exact IntWalk.wrap64_in _ ⟨by omega, by omega⟩
theorem tmod_one (a : Int) : a.tmod 1 = 0 := Int.tmod_one a
theorem tmod_neg_one (a : Int) : a.tmod (-1) = 0 := by rw [Int.tmod_neg]; exact Int.tmod_one a
/-- downwards: one less just if something is left and the signs differ -/
theorem fdiv_tdiv (a b : Int) (h0 : b ≠ 0) : a.fdiv b = if a.tmod b ≠ 0 ∧ decide (a < 0) ≠ decide (b < 0) then a.tdiv b - 1 else a.tdiv b := by
  rw [Int.fdiv_eq_tdiv]
  have hd : a.tmod b = 0 ↔ b ∣ a := by rw [Int.dvd_iff_tmod_eq_zero]
  by_cases hb : b ∣ a
  · simp [hb, hd]
  · rcases Int.lt_or_le a 0 with ha | ha <;> rcases Int.lt_or_le b 0 with hb' | hb'
    · have e := Int.sign_eq_neg_one_of_neg hb'
      simp [hb, hd, ha, hb', Int.not_le.2 ha, Int.not_le.2 hb', e]
    · have e := Int.sign_eq_one_of_pos (show 0 < b by omega)
      simp [hb, hd, ha, hb', Int.not_le.2 ha, Int.not_lt.2 hb', e]
    · simp [hb, hd, ha, hb', Int.not_le.2 hb', Int.not_lt.2 ha]
    · simp [hb, hd, ha, hb', Int.not_lt.2 hb', Int.not_lt.2 ha]
theorem tdiv_sub_bd (a b : Int) (ha : -9223372036854775808 ≤ a) (ha' : a ≤ 9223372036854775807) (h0 : a.tmod b ≠ 0) :
    -9223372036854775808 ≤ a.tdiv b - 1 ∧ a.tdiv b - 1 ≤ 9223372036854775807 := by
  by_cases hz : b = 0
  · subst hz; simp
  by_cases h1 : b = 1
  · subst h1; exact absurd (tmod_one a) h0
  by_cases h2 : b = -1
  · subst h2; exact absurd (tmod_neg_one a) h0
  have := tdiv_half a b hz h1 h2
  omega
theorem fdiv_case0 (a b : Int) (h0 : b ≠ 0) (h1 : a.tmod b = 0) : a.tdiv b = a.fdiv b := by
  rw [fdiv_tdiv a b h0, if_neg (fun h => h.1 h1)]
theorem fdiv_case1 (a b : Int) (ha : -9223372036854775808 ≤ a) (ha' : a ≤ 9223372036854775807) (h0 : b ≠ 0) (h1 : ¬a.tmod b = 0) (h2 : (a.tmod b != 0) = true ∧ (!decide (a < 0) == decide (b < 0)) = true) :
    wrap64 (a.tdiv b - 1) = a.fdiv b := by
  rw [fdiv_tdiv a b h0, if_pos ⟨h1, by simpa using h2.2⟩]
  exact IntWalk.wrap64_in _ (tdiv_sub_bd a b ha ha' h1)
theorem fdiv_case2 (a b : Int) (h0 : b ≠ 0) (h1 : ¬a.tmod b = 0) (h2 : (a.tmod b != 0) = false ∨ (!decide (a < 0) == decide (b < 0)) = false) : a.tdiv b = a.fdiv b := by
  rw [fdiv_tdiv a b h0, if_neg]
  rintro ⟨_, h4⟩
  rcases h2 with h | h
  · simp [h1] at h
  · exact h4 (by simpa using h)
end Go.Proofs.Ytghimladdioajaa
