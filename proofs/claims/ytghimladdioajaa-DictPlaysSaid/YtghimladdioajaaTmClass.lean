/- Contracts of both Class over this seat's program. Every number. -/
import Derived.Test.YtghimladdioajaaTmWrong
namespace Go.Proofs.Ytghimladdioajaa
open Go Go.RowKit
/-- a sign's class -/
def classV (n : Int) : Int :=
  if ¬ SignP n then 6 else if n = 32 ∨ n = 9 ∨ n = 10 ∨ n = 13 then 0 else if (97 ≤ n ∧ n ≤ 122) ∨ (65 ≤ n ∧ n ≤ 90) then 1
  else if 48 ≤ n ∧ n ≤ 57 then 2 else if 33 ≤ n ∧ n ≤ 126 then 3 else if n < 160 then 4 else 5
theorem class_bad {n : Int} (h : ¬ SignP n) : classV n = 6 := by unfold classV; rw [if_pos h]
theorem class_blank {n : Int} (h : n = 32 ∨ n = 9 ∨ n = 10 ∨ n = 13) : classV n = 0 := by
  unfold classV SignP; rw [if_neg (by omega), if_pos h]
theorem class_other {n : Int} (hs : SignP n) (h : ¬ (n = 32 ∨ n = 9 ∨ n = 10 ∨ n = 13)) (v : Int)
    (hv : v = if (97 ≤ n ∧ n ≤ 122) ∨ (65 ≤ n ∧ n ≤ 90) then 1 else if 48 ≤ n ∧ n ≤ 57 then 2 else if 33 ≤ n ∧ n ≤ 126 then 3 else if n < 160 then 4 else 5) : classV n = v := by
  unfold classV; rw [if_neg (by simpa using hs), if_neg h, hv]
theorem valid_yes {n : Int} (h : SignP n) : Lib.validRune n = true := decide_eq_true h
theorem valid_no {n : Int} (h : ¬ SignP n) : Lib.validRune n = false := decide_eq_false h
set_option maxHeartbeats 1600000 in
theorem class_any (n : Int) (w : World) (n0 : -2147483648 ≤ n) (n1 : n ≤ 2147483647) : Calls Try.prog 80 #[.int .i32 n] w fun e w' => e = .returned (.int .i64 (classV n)) ∧ w' = w := by
  by_cases hs : SignP n
  · have HV := Lib.hid (valid_yes hs)
    by_cases hb : n = 32 ∨ n = 9 ∨ n = 10 ∨ n = 13
    · rw [class_blank hb]
      clear hs
      rcases hb with rfl | rfl | rfl | rfl
      all_goals
        go_enter Try.func80, Try.ntmps80
        go_wp2_with (go_at_call 86; refine (Try.utf8_ValidRune _ _).mono ?_; rintro e w' ⟨rfl, rfl⟩; rw [HV.out])
        go_ret
        exact ⟨rfl, rfl⟩
    · have HC := Lib.hid (class_other hs hb)
      have e1 : (n == 32) = false := beq_eq_false_iff_ne.mpr (by omega)
      have e2 : (n == 9) = false := beq_eq_false_iff_ne.mpr (by omega)
      have e3 : (n == 10) = false := beq_eq_false_iff_ne.mpr (by omega)
      have e4 : (n == 13) = false := beq_eq_false_iff_ne.mpr (by omega)
      clear hs hb
      go_enter Try.func80, Try.ntmps80
      go_wp2_with (go_at_call 86; refine (Try.utf8_ValidRune _ _).mono ?_; rintro e w' ⟨rfl, rfl⟩; rw [HV.out])
      all_goals go_ret
      all_goals refine ⟨ret_int (HC.out _ ?_).symm, rfl⟩
      all_goals (repeat' split) <;> omega
  · have HV := Lib.hid (valid_no hs)
    rw [class_bad hs]
    clear hs
    go_enter Try.func80, Try.ntmps80
    go_wp2_with (go_at_call 86; refine (Try.utf8_ValidRune _ _).mono ?_; rintro e w' ⟨rfl, rfl⟩; rw [HV.out])
    go_ret
    exact ⟨rfl, rfl⟩
set_option maxHeartbeats 1600000 in
theorem rclass_any (n : Int) (w : World) (n0 : -9223372036854775808 ≤ n) (n1 : n ≤ 9223372036854775807) : Calls Try.prog 54 #[.int .i64 n] w fun e w' => e = .returned (.int .i64 (classV n)) ∧ w' = w := by
  by_cases hs : SignP n
  · have HV := Lib.hid (sign_yes n · hs)
    by_cases hb : n = 32 ∨ n = 9 ∨ n = 10 ∨ n = 13
    · rw [class_blank hb]
      clear hs
      rcases hb with rfl | rfl | rfl | rfl
      all_goals
        go_enter Try.func54, Try.ntmps54
        go_wp2_with (go_at_call 57; refine (HV.out _).mono ?_; rintro e w' ⟨rfl, rfl⟩)
        go_ret
        exact ⟨rfl, rfl⟩
    · have HC := Lib.hid (class_other hs hb)
      have e1 : (n == 32) = false := beq_eq_false_iff_ne.mpr (by omega)
      have e2 : (n == 9) = false := beq_eq_false_iff_ne.mpr (by omega)
      have e3 : (n == 10) = false := beq_eq_false_iff_ne.mpr (by omega)
      have e4 : (n == 13) = false := beq_eq_false_iff_ne.mpr (by omega)
      clear hs hb
      go_enter Try.func54, Try.ntmps54
      go_wp2_with (go_at_call 57; refine (HV.out _).mono ?_; rintro e w' ⟨rfl, rfl⟩)
      all_goals go_ret
      all_goals refine ⟨ret_int (HC.out _ ?_).symm, rfl⟩
      all_goals (repeat' split) <;> omega
  · have HV := Lib.hid (sign_no n · hs)
    rw [class_bad hs]
    clear hs
    go_enter Try.func54, Try.ntmps54
    go_wp2_with (go_at_call 57; refine (HV.out _).mono ?_; rintro e w' ⟨rfl, rfl⟩)
    go_ret
    exact ⟨rfl, rfl⟩
end Go.Proofs.Ytghimladdioajaa
