/- Contracts of both Hex over this seat's program; the two laws of classes and digits. Every number. -/
import Derived.Test.YteicjmippeobpaaDoorScClass
namespace Go.Proofs.YteicjmippeobpaaDoor
open Go Go.RowKit
/-- a sign's number as a digit -/
def hexV (n : Int) : Int := if 48 ≤ n ∧ n ≤ 57 then n - 48 else if 97 ≤ n ∧ n ≤ 102 then n - 87 else if 65 ≤ n ∧ n ≤ 70 then n - 55 else -1
theorem hex_any (n : Int) (w : World) (n0 : -2147483648 ≤ n) (n1 : n ≤ 2147483647) : Calls Tryd.prog 18 #[.int .i32 n] w fun e w' => e = .returned (.int .i64 (hexV n)) ∧ w' = w := by
  go_enter Tryd.func18, Tryd.ntmps18
  go_wp2_with fail
  all_goals go_ret
  all_goals refine ⟨ret_int ?_, rfl⟩
  all_goals unfold hexV
  all_goals (repeat' split) <;> omega
set_option maxHeartbeats 6400000 in
theorem rhex_any (n : Int) (w : World) (n0 : -9223372036854775808 ≤ n) (n1 : n ≤ 9223372036854775807) : Calls Tryd.prog 19 #[.int .i64 n] w fun e w' => e = .returned (.int .i64 (hexV n)) ∧ w = w' := by
  go_enter Tryd.func19, Tryd.ntmps19
  go_wp2_with fail
  go_loop [5] (fun i => ∃ k : Nat, k ≤ 16 ∧ i = .int .i64 k ∧ Hid (hexV n < k → hexV n = -1)) (fun i => 16 - (intOf i).toNat)
  case atStart => exact ⟨0, by omega, rfl, Lib.hid (fun h => by unfold hexV at h ⊢; (repeat' split at h) <;> (repeat' split) <;> omega)⟩
  case round =>
    obtain ⟨k, hk, rfl, HI⟩ := hrel
    rcases (by omega : k = 0 ∨ k = 1 ∨ k = 2 ∨ k = 3 ∨ k = 4 ∨ k = 5 ∨ k = 6 ∨ k = 7 ∨ k = 8 ∨ k = 9 ∨ k = 10 ∨ k = 11 ∨ k = 12 ∨ k = 13 ∨ k = 14 ∨ k = 15 ∨ k = 16) with rfl | rfl | rfl | rfl | rfl | rfl | rfl | rfl | rfl | rfl | rfl | rfl | rfl | rfl | rfl | rfl | rfl
    · have t1 : (((⟨#[48, 49, 50, 51, 52, 53, 54, 55, 56, 57, 97, 98, 99, 100, 101, 102]⟩ : ByteArray)[0]'(by decide)).toNat) = 48 := by decide
      have t2 : (((⟨#[48, 49, 50, 51, 52, 53, 54, 55, 56, 57, 65, 66, 67, 68, 69, 70]⟩ : ByteArray)[0]'(by decide)).toNat) = 48 := by decide
      by_cases h1 : n = 48
      · subst h1
        go_wp2_with fail
        go_ret
        exact ⟨rfl, rfl⟩
      have e1 : (n == 48) = false := beq_eq_false_iff_ne.mpr h1
      have HI2 : Hid (hexV n < (1 : Nat) → hexV n = -1) := Lib.hid (fun h => by have := HI.out; unfold hexV at this h ⊢; (repeat' split at this) <;> (repeat' split at h) <;> (repeat' split) <;> omega)
      clear h1 HI
      go_wp2_with fail
      go_round
      case rel => exact ⟨1, by omega, rfl, HI2⟩
      case measure => simp [intOf]
    · have t1 : (((⟨#[48, 49, 50, 51, 52, 53, 54, 55, 56, 57, 97, 98, 99, 100, 101, 102]⟩ : ByteArray)[1]'(by decide)).toNat) = 49 := by decide
      have t2 : (((⟨#[48, 49, 50, 51, 52, 53, 54, 55, 56, 57, 65, 66, 67, 68, 69, 70]⟩ : ByteArray)[1]'(by decide)).toNat) = 49 := by decide
      by_cases h1 : n = 49
      · subst h1
        go_wp2_with fail
        go_ret
        exact ⟨rfl, rfl⟩
      have e1 : (n == 49) = false := beq_eq_false_iff_ne.mpr h1
      have HI2 : Hid (hexV n < (2 : Nat) → hexV n = -1) := Lib.hid (fun h => by have := HI.out; unfold hexV at this h ⊢; (repeat' split at this) <;> (repeat' split at h) <;> (repeat' split) <;> omega)
      clear h1 HI
      go_wp2_with fail
      go_round
      case rel => exact ⟨2, by omega, rfl, HI2⟩
      case measure => simp [intOf]
    · have t1 : (((⟨#[48, 49, 50, 51, 52, 53, 54, 55, 56, 57, 97, 98, 99, 100, 101, 102]⟩ : ByteArray)[2]'(by decide)).toNat) = 50 := by decide
      have t2 : (((⟨#[48, 49, 50, 51, 52, 53, 54, 55, 56, 57, 65, 66, 67, 68, 69, 70]⟩ : ByteArray)[2]'(by decide)).toNat) = 50 := by decide
      by_cases h1 : n = 50
      · subst h1
        go_wp2_with fail
        go_ret
        exact ⟨rfl, rfl⟩
      have e1 : (n == 50) = false := beq_eq_false_iff_ne.mpr h1
      have HI2 : Hid (hexV n < (3 : Nat) → hexV n = -1) := Lib.hid (fun h => by have := HI.out; unfold hexV at this h ⊢; (repeat' split at this) <;> (repeat' split at h) <;> (repeat' split) <;> omega)
      clear h1 HI
      go_wp2_with fail
      go_round
      case rel => exact ⟨3, by omega, rfl, HI2⟩
      case measure => simp [intOf]
    · have t1 : (((⟨#[48, 49, 50, 51, 52, 53, 54, 55, 56, 57, 97, 98, 99, 100, 101, 102]⟩ : ByteArray)[3]'(by decide)).toNat) = 51 := by decide
      have t2 : (((⟨#[48, 49, 50, 51, 52, 53, 54, 55, 56, 57, 65, 66, 67, 68, 69, 70]⟩ : ByteArray)[3]'(by decide)).toNat) = 51 := by decide
      by_cases h1 : n = 51
      · subst h1
        go_wp2_with fail
        go_ret
        exact ⟨rfl, rfl⟩
      have e1 : (n == 51) = false := beq_eq_false_iff_ne.mpr h1
      have HI2 : Hid (hexV n < (4 : Nat) → hexV n = -1) := Lib.hid (fun h => by have := HI.out; unfold hexV at this h ⊢; (repeat' split at this) <;> (repeat' split at h) <;> (repeat' split) <;> omega)
      clear h1 HI
      go_wp2_with fail
      go_round
      case rel => exact ⟨4, by omega, rfl, HI2⟩
      case measure => simp [intOf]
    · have t1 : (((⟨#[48, 49, 50, 51, 52, 53, 54, 55, 56, 57, 97, 98, 99, 100, 101, 102]⟩ : ByteArray)[4]'(by decide)).toNat) = 52 := by decide
      have t2 : (((⟨#[48, 49, 50, 51, 52, 53, 54, 55, 56, 57, 65, 66, 67, 68, 69, 70]⟩ : ByteArray)[4]'(by decide)).toNat) = 52 := by decide
      by_cases h1 : n = 52
      · subst h1
        go_wp2_with fail
        go_ret
        exact ⟨rfl, rfl⟩
      have e1 : (n == 52) = false := beq_eq_false_iff_ne.mpr h1
      have HI2 : Hid (hexV n < (5 : Nat) → hexV n = -1) := Lib.hid (fun h => by have := HI.out; unfold hexV at this h ⊢; (repeat' split at this) <;> (repeat' split at h) <;> (repeat' split) <;> omega)
      clear h1 HI
      go_wp2_with fail
      go_round
      case rel => exact ⟨5, by omega, rfl, HI2⟩
      case measure => simp [intOf]
    · have t1 : (((⟨#[48, 49, 50, 51, 52, 53, 54, 55, 56, 57, 97, 98, 99, 100, 101, 102]⟩ : ByteArray)[5]'(by decide)).toNat) = 53 := by decide
      have t2 : (((⟨#[48, 49, 50, 51, 52, 53, 54, 55, 56, 57, 65, 66, 67, 68, 69, 70]⟩ : ByteArray)[5]'(by decide)).toNat) = 53 := by decide
      by_cases h1 : n = 53
      · subst h1
        go_wp2_with fail
        go_ret
        exact ⟨rfl, rfl⟩
      have e1 : (n == 53) = false := beq_eq_false_iff_ne.mpr h1
      have HI2 : Hid (hexV n < (6 : Nat) → hexV n = -1) := Lib.hid (fun h => by have := HI.out; unfold hexV at this h ⊢; (repeat' split at this) <;> (repeat' split at h) <;> (repeat' split) <;> omega)
      clear h1 HI
      go_wp2_with fail
      go_round
      case rel => exact ⟨6, by omega, rfl, HI2⟩
      case measure => simp [intOf]
    · have t1 : (((⟨#[48, 49, 50, 51, 52, 53, 54, 55, 56, 57, 97, 98, 99, 100, 101, 102]⟩ : ByteArray)[6]'(by decide)).toNat) = 54 := by decide
      have t2 : (((⟨#[48, 49, 50, 51, 52, 53, 54, 55, 56, 57, 65, 66, 67, 68, 69, 70]⟩ : ByteArray)[6]'(by decide)).toNat) = 54 := by decide
      by_cases h1 : n = 54
      · subst h1
        go_wp2_with fail
        go_ret
        exact ⟨rfl, rfl⟩
      have e1 : (n == 54) = false := beq_eq_false_iff_ne.mpr h1
      have HI2 : Hid (hexV n < (7 : Nat) → hexV n = -1) := Lib.hid (fun h => by have := HI.out; unfold hexV at this h ⊢; (repeat' split at this) <;> (repeat' split at h) <;> (repeat' split) <;> omega)
      clear h1 HI
      go_wp2_with fail
      go_round
      case rel => exact ⟨7, by omega, rfl, HI2⟩
      case measure => simp [intOf]
    · have t1 : (((⟨#[48, 49, 50, 51, 52, 53, 54, 55, 56, 57, 97, 98, 99, 100, 101, 102]⟩ : ByteArray)[7]'(by decide)).toNat) = 55 := by decide
      have t2 : (((⟨#[48, 49, 50, 51, 52, 53, 54, 55, 56, 57, 65, 66, 67, 68, 69, 70]⟩ : ByteArray)[7]'(by decide)).toNat) = 55 := by decide
      by_cases h1 : n = 55
      · subst h1
        go_wp2_with fail
        go_ret
        exact ⟨rfl, rfl⟩
      have e1 : (n == 55) = false := beq_eq_false_iff_ne.mpr h1
      have HI2 : Hid (hexV n < (8 : Nat) → hexV n = -1) := Lib.hid (fun h => by have := HI.out; unfold hexV at this h ⊢; (repeat' split at this) <;> (repeat' split at h) <;> (repeat' split) <;> omega)
      clear h1 HI
      go_wp2_with fail
      go_round
      case rel => exact ⟨8, by omega, rfl, HI2⟩
      case measure => simp [intOf]
    · have t1 : (((⟨#[48, 49, 50, 51, 52, 53, 54, 55, 56, 57, 97, 98, 99, 100, 101, 102]⟩ : ByteArray)[8]'(by decide)).toNat) = 56 := by decide
      have t2 : (((⟨#[48, 49, 50, 51, 52, 53, 54, 55, 56, 57, 65, 66, 67, 68, 69, 70]⟩ : ByteArray)[8]'(by decide)).toNat) = 56 := by decide
      by_cases h1 : n = 56
      · subst h1
        go_wp2_with fail
        go_ret
        exact ⟨rfl, rfl⟩
      have e1 : (n == 56) = false := beq_eq_false_iff_ne.mpr h1
      have HI2 : Hid (hexV n < (9 : Nat) → hexV n = -1) := Lib.hid (fun h => by have := HI.out; unfold hexV at this h ⊢; (repeat' split at this) <;> (repeat' split at h) <;> (repeat' split) <;> omega)
      clear h1 HI
      go_wp2_with fail
      go_round
      case rel => exact ⟨9, by omega, rfl, HI2⟩
      case measure => simp [intOf]
    · have t1 : (((⟨#[48, 49, 50, 51, 52, 53, 54, 55, 56, 57, 97, 98, 99, 100, 101, 102]⟩ : ByteArray)[9]'(by decide)).toNat) = 57 := by decide
      have t2 : (((⟨#[48, 49, 50, 51, 52, 53, 54, 55, 56, 57, 65, 66, 67, 68, 69, 70]⟩ : ByteArray)[9]'(by decide)).toNat) = 57 := by decide
      by_cases h1 : n = 57
      · subst h1
        go_wp2_with fail
        go_ret
        exact ⟨rfl, rfl⟩
      have e1 : (n == 57) = false := beq_eq_false_iff_ne.mpr h1
      have HI2 : Hid (hexV n < (10 : Nat) → hexV n = -1) := Lib.hid (fun h => by have := HI.out; unfold hexV at this h ⊢; (repeat' split at this) <;> (repeat' split at h) <;> (repeat' split) <;> omega)
      clear h1 HI
      go_wp2_with fail
      go_round
      case rel => exact ⟨10, by omega, rfl, HI2⟩
      case measure => simp [intOf]
    · have t1 : (((⟨#[48, 49, 50, 51, 52, 53, 54, 55, 56, 57, 97, 98, 99, 100, 101, 102]⟩ : ByteArray)[10]'(by decide)).toNat) = 97 := by decide
      have t2 : (((⟨#[48, 49, 50, 51, 52, 53, 54, 55, 56, 57, 65, 66, 67, 68, 69, 70]⟩ : ByteArray)[10]'(by decide)).toNat) = 65 := by decide
      by_cases h1 : n = 97
      · subst h1
        go_wp2_with fail
        go_ret
        exact ⟨rfl, rfl⟩
      by_cases h2 : n = 65
      · subst h2
        go_wp2_with fail
        go_ret
        exact ⟨rfl, rfl⟩
      have e1 : (n == 97) = false := beq_eq_false_iff_ne.mpr h1
      have e2 : (n == 65) = false := beq_eq_false_iff_ne.mpr h2
      have HI2 : Hid (hexV n < (11 : Nat) → hexV n = -1) := Lib.hid (fun h => by have := HI.out; unfold hexV at this h ⊢; (repeat' split at this) <;> (repeat' split at h) <;> (repeat' split) <;> omega)
      clear h1 h2 HI
      go_wp2_with fail
      go_round
      case rel => exact ⟨11, by omega, rfl, HI2⟩
      case measure => simp [intOf]
    · have t1 : (((⟨#[48, 49, 50, 51, 52, 53, 54, 55, 56, 57, 97, 98, 99, 100, 101, 102]⟩ : ByteArray)[11]'(by decide)).toNat) = 98 := by decide
      have t2 : (((⟨#[48, 49, 50, 51, 52, 53, 54, 55, 56, 57, 65, 66, 67, 68, 69, 70]⟩ : ByteArray)[11]'(by decide)).toNat) = 66 := by decide
      by_cases h1 : n = 98
      · subst h1
        go_wp2_with fail
        go_ret
        exact ⟨rfl, rfl⟩
      by_cases h2 : n = 66
      · subst h2
        go_wp2_with fail
        go_ret
        exact ⟨rfl, rfl⟩
      have e1 : (n == 98) = false := beq_eq_false_iff_ne.mpr h1
      have e2 : (n == 66) = false := beq_eq_false_iff_ne.mpr h2
      have HI2 : Hid (hexV n < (12 : Nat) → hexV n = -1) := Lib.hid (fun h => by have := HI.out; unfold hexV at this h ⊢; (repeat' split at this) <;> (repeat' split at h) <;> (repeat' split) <;> omega)
      clear h1 h2 HI
      go_wp2_with fail
      go_round
      case rel => exact ⟨12, by omega, rfl, HI2⟩
      case measure => simp [intOf]
    · have t1 : (((⟨#[48, 49, 50, 51, 52, 53, 54, 55, 56, 57, 97, 98, 99, 100, 101, 102]⟩ : ByteArray)[12]'(by decide)).toNat) = 99 := by decide
      have t2 : (((⟨#[48, 49, 50, 51, 52, 53, 54, 55, 56, 57, 65, 66, 67, 68, 69, 70]⟩ : ByteArray)[12]'(by decide)).toNat) = 67 := by decide
      by_cases h1 : n = 99
      · subst h1
        go_wp2_with fail
        go_ret
        exact ⟨rfl, rfl⟩
      by_cases h2 : n = 67
      · subst h2
        go_wp2_with fail
        go_ret
        exact ⟨rfl, rfl⟩
      have e1 : (n == 99) = false := beq_eq_false_iff_ne.mpr h1
      have e2 : (n == 67) = false := beq_eq_false_iff_ne.mpr h2
      have HI2 : Hid (hexV n < (13 : Nat) → hexV n = -1) := Lib.hid (fun h => by have := HI.out; unfold hexV at this h ⊢; (repeat' split at this) <;> (repeat' split at h) <;> (repeat' split) <;> omega)
      clear h1 h2 HI
      go_wp2_with fail
      go_round
      case rel => exact ⟨13, by omega, rfl, HI2⟩
      case measure => simp [intOf]
    · have t1 : (((⟨#[48, 49, 50, 51, 52, 53, 54, 55, 56, 57, 97, 98, 99, 100, 101, 102]⟩ : ByteArray)[13]'(by decide)).toNat) = 100 := by decide
      have t2 : (((⟨#[48, 49, 50, 51, 52, 53, 54, 55, 56, 57, 65, 66, 67, 68, 69, 70]⟩ : ByteArray)[13]'(by decide)).toNat) = 68 := by decide
      by_cases h1 : n = 100
      · subst h1
        go_wp2_with fail
        go_ret
        exact ⟨rfl, rfl⟩
      by_cases h2 : n = 68
      · subst h2
        go_wp2_with fail
        go_ret
        exact ⟨rfl, rfl⟩
      have e1 : (n == 100) = false := beq_eq_false_iff_ne.mpr h1
      have e2 : (n == 68) = false := beq_eq_false_iff_ne.mpr h2
      have HI2 : Hid (hexV n < (14 : Nat) → hexV n = -1) := Lib.hid (fun h => by have := HI.out; unfold hexV at this h ⊢; (repeat' split at this) <;> (repeat' split at h) <;> (repeat' split) <;> omega)
      clear h1 h2 HI
      go_wp2_with fail
      go_round
      case rel => exact ⟨14, by omega, rfl, HI2⟩
      case measure => simp [intOf]
    · have t1 : (((⟨#[48, 49, 50, 51, 52, 53, 54, 55, 56, 57, 97, 98, 99, 100, 101, 102]⟩ : ByteArray)[14]'(by decide)).toNat) = 101 := by decide
      have t2 : (((⟨#[48, 49, 50, 51, 52, 53, 54, 55, 56, 57, 65, 66, 67, 68, 69, 70]⟩ : ByteArray)[14]'(by decide)).toNat) = 69 := by decide
      by_cases h1 : n = 101
      · subst h1
        go_wp2_with fail
        go_ret
        exact ⟨rfl, rfl⟩
      by_cases h2 : n = 69
      · subst h2
        go_wp2_with fail
        go_ret
        exact ⟨rfl, rfl⟩
      have e1 : (n == 101) = false := beq_eq_false_iff_ne.mpr h1
      have e2 : (n == 69) = false := beq_eq_false_iff_ne.mpr h2
      have HI2 : Hid (hexV n < (15 : Nat) → hexV n = -1) := Lib.hid (fun h => by have := HI.out; unfold hexV at this h ⊢; (repeat' split at this) <;> (repeat' split at h) <;> (repeat' split) <;> omega)
      clear h1 h2 HI
      go_wp2_with fail
      go_round
      case rel => exact ⟨15, by omega, rfl, HI2⟩
      case measure => simp [intOf]
    · have t1 : (((⟨#[48, 49, 50, 51, 52, 53, 54, 55, 56, 57, 97, 98, 99, 100, 101, 102]⟩ : ByteArray)[15]'(by decide)).toNat) = 102 := by decide
      have t2 : (((⟨#[48, 49, 50, 51, 52, 53, 54, 55, 56, 57, 65, 66, 67, 68, 69, 70]⟩ : ByteArray)[15]'(by decide)).toNat) = 70 := by decide
      by_cases h1 : n = 102
      · subst h1
        go_wp2_with fail
        go_ret
        exact ⟨rfl, rfl⟩
      by_cases h2 : n = 70
      · subst h2
        go_wp2_with fail
        go_ret
        exact ⟨rfl, rfl⟩
      have e1 : (n == 102) = false := beq_eq_false_iff_ne.mpr h1
      have e2 : (n == 70) = false := beq_eq_false_iff_ne.mpr h2
      have HI2 : Hid (hexV n < (16 : Nat) → hexV n = -1) := Lib.hid (fun h => by have := HI.out; unfold hexV at this h ⊢; (repeat' split at this) <;> (repeat' split at h) <;> (repeat' split) <;> omega)
      clear h1 h2 HI
      go_wp2_with fail
      go_round
      case rel => exact ⟨16, by omega, rfl, HI2⟩
      case measure => simp [intOf]
    · have HE : Hid (hexV n = -1) := Lib.hid (HI.out (by unfold hexV; (repeat' split) <;> omega))
      clear HI
      go_wp2_with fail
      go_ret
      exact ⟨ret_int HE.out.symm, rfl⟩
end Go.Proofs.YteicjmippeobpaaDoor
