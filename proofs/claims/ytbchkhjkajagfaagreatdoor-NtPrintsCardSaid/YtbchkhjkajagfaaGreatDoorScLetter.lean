/- Contracts of the reference's letter and Quoted. -/
import Derived.Test.YtbchkhjkajagfaaGreatDoorScQuoted
namespace Go.Proofs.YtbchkhjkajagfaaGreatDoor
open Go Go.RowKit
set_option maxRecDepth 100000
set_option linter.unusedVariables false
set_option maxHeartbeats 3200000 in
theorem letter_any (n : Int) (w : World) (n0 : -9223372036854775808 ≤ n) (n1 : n ≤ 9223372036854775807) : Calls Tryz.prog 62 #[.int .i64 n] w fun e w' => e = .returned (.int .u8 (letterV n)) ∧ w = w' := by
  go_enter Tryz.func62, Tryz.ntmps62
  go_wp2_with fail
  go_loop [5] (fun i => ∃ k : Nat, k ≤ 7 ∧ i = .int .i64 k ∧ Hid (∀ j, j < k → escS j ≠ n)) (fun i => 7 - (intOf i).toNat)
  case atStart => exact ⟨0, by omega, rfl, Lib.hid (fun j hj => by omega)⟩
  case round =>
    obtain ⟨k, hk, rfl, HI⟩ := hrel
    rcases (by omega : k = 0 ∨ k = 1 ∨ k = 2 ∨ k = 3 ∨ k = 4 ∨ k = 5 ∨ k = 6 ∨ k = 7) with rfl | rfl | rfl | rfl | rfl | rfl | rfl | rfl
    · have t1 : (((⟨#[9, 10, 13, 8, 12, 34, 92]⟩ : ByteArray)[0]'(by decide)).toNat) = 9 := by decide
      have t2 : (((⟨#[116, 110, 114, 98, 102, 34, 92]⟩ : ByteArray)[0]'(by decide)).toNat) = 116 := by decide
      by_cases h1 : n = 9
      · subst h1
        go_wp2_with fail
        go_ret
        exact ⟨rfl, rfl⟩
      have e1 : (n == 9) = false := beq_eq_false_iff_ne.mpr h1
      have HI2 : Hid (∀ j, j < 1 → escS j ≠ n) := Lib.hid (fun j hj => by
        by_cases h2 : j < 0
        · exact HI.out j h2
        · obtain rfl : j = 0 := by omega
          exact fun h => h1 h.symm)
      clear h1 HI
      go_wp2_with fail
      go_round
      case rel => exact ⟨1, by omega, rfl, HI2⟩
      case measure => simp [intOf]
    · have t1 : (((⟨#[9, 10, 13, 8, 12, 34, 92]⟩ : ByteArray)[1]'(by decide)).toNat) = 10 := by decide
      have t2 : (((⟨#[116, 110, 114, 98, 102, 34, 92]⟩ : ByteArray)[1]'(by decide)).toNat) = 110 := by decide
      by_cases h1 : n = 10
      · subst h1
        go_wp2_with fail
        go_ret
        exact ⟨rfl, rfl⟩
      have e1 : (n == 10) = false := beq_eq_false_iff_ne.mpr h1
      have HI2 : Hid (∀ j, j < 2 → escS j ≠ n) := Lib.hid (fun j hj => by
        by_cases h2 : j < 1
        · exact HI.out j h2
        · obtain rfl : j = 1 := by omega
          exact fun h => h1 h.symm)
      clear h1 HI
      go_wp2_with fail
      go_round
      case rel => exact ⟨2, by omega, rfl, HI2⟩
      case measure => simp [intOf]
    · have t1 : (((⟨#[9, 10, 13, 8, 12, 34, 92]⟩ : ByteArray)[2]'(by decide)).toNat) = 13 := by decide
      have t2 : (((⟨#[116, 110, 114, 98, 102, 34, 92]⟩ : ByteArray)[2]'(by decide)).toNat) = 114 := by decide
      by_cases h1 : n = 13
      · subst h1
        go_wp2_with fail
        go_ret
        exact ⟨rfl, rfl⟩
      have e1 : (n == 13) = false := beq_eq_false_iff_ne.mpr h1
      have HI2 : Hid (∀ j, j < 3 → escS j ≠ n) := Lib.hid (fun j hj => by
        by_cases h2 : j < 2
        · exact HI.out j h2
        · obtain rfl : j = 2 := by omega
          exact fun h => h1 h.symm)
      clear h1 HI
      go_wp2_with fail
      go_round
      case rel => exact ⟨3, by omega, rfl, HI2⟩
      case measure => simp [intOf]
    · have t1 : (((⟨#[9, 10, 13, 8, 12, 34, 92]⟩ : ByteArray)[3]'(by decide)).toNat) = 8 := by decide
      have t2 : (((⟨#[116, 110, 114, 98, 102, 34, 92]⟩ : ByteArray)[3]'(by decide)).toNat) = 98 := by decide
      by_cases h1 : n = 8
      · subst h1
        go_wp2_with fail
        go_ret
        exact ⟨rfl, rfl⟩
      have e1 : (n == 8) = false := beq_eq_false_iff_ne.mpr h1
      have HI2 : Hid (∀ j, j < 4 → escS j ≠ n) := Lib.hid (fun j hj => by
        by_cases h2 : j < 3
        · exact HI.out j h2
        · obtain rfl : j = 3 := by omega
          exact fun h => h1 h.symm)
      clear h1 HI
      go_wp2_with fail
      go_round
      case rel => exact ⟨4, by omega, rfl, HI2⟩
      case measure => simp [intOf]
    · have t1 : (((⟨#[9, 10, 13, 8, 12, 34, 92]⟩ : ByteArray)[4]'(by decide)).toNat) = 12 := by decide
      have t2 : (((⟨#[116, 110, 114, 98, 102, 34, 92]⟩ : ByteArray)[4]'(by decide)).toNat) = 102 := by decide
      by_cases h1 : n = 12
      · subst h1
        go_wp2_with fail
        go_ret
        exact ⟨rfl, rfl⟩
      have e1 : (n == 12) = false := beq_eq_false_iff_ne.mpr h1
      have HI2 : Hid (∀ j, j < 5 → escS j ≠ n) := Lib.hid (fun j hj => by
        by_cases h2 : j < 4
        · exact HI.out j h2
        · obtain rfl : j = 4 := by omega
          exact fun h => h1 h.symm)
      clear h1 HI
      go_wp2_with fail
      go_round
      case rel => exact ⟨5, by omega, rfl, HI2⟩
      case measure => simp [intOf]
    · have t1 : (((⟨#[9, 10, 13, 8, 12, 34, 92]⟩ : ByteArray)[5]'(by decide)).toNat) = 34 := by decide
      have t2 : (((⟨#[116, 110, 114, 98, 102, 34, 92]⟩ : ByteArray)[5]'(by decide)).toNat) = 34 := by decide
      by_cases h1 : n = 34
      · subst h1
        go_wp2_with fail
        go_ret
        exact ⟨rfl, rfl⟩
      have e1 : (n == 34) = false := beq_eq_false_iff_ne.mpr h1
      have HI2 : Hid (∀ j, j < 6 → escS j ≠ n) := Lib.hid (fun j hj => by
        by_cases h2 : j < 5
        · exact HI.out j h2
        · obtain rfl : j = 5 := by omega
          exact fun h => h1 h.symm)
      clear h1 HI
      go_wp2_with fail
      go_round
      case rel => exact ⟨6, by omega, rfl, HI2⟩
      case measure => simp [intOf]
    · have t1 : (((⟨#[9, 10, 13, 8, 12, 34, 92]⟩ : ByteArray)[6]'(by decide)).toNat) = 92 := by decide
      have t2 : (((⟨#[116, 110, 114, 98, 102, 34, 92]⟩ : ByteArray)[6]'(by decide)).toNat) = 92 := by decide
      by_cases h1 : n = 92
      · subst h1
        go_wp2_with fail
        go_ret
        exact ⟨rfl, rfl⟩
      have e1 : (n == 92) = false := beq_eq_false_iff_ne.mpr h1
      have HI2 : Hid (∀ j, j < 7 → escS j ≠ n) := Lib.hid (fun j hj => by
        by_cases h2 : j < 6
        · exact HI.out j h2
        · obtain rfl : j = 6 := by omega
          exact fun h => h1 h.symm)
      clear h1 HI
      go_wp2_with fail
      go_round
      case rel => exact ⟨7, by omega, rfl, HI2⟩
      case measure => simp [intOf]
    · have HE := Lib.hid (esc_miss HI.out)
      clear HI
      go_wp2_with fail
      go_ret
      exact ⟨by rw [HE.out]; rfl, rfl⟩
def esc7 (c : Int) : Option Int := if c = 116 then some 9 else if c = 110 then some 10 else if c = 114 then some 13 else if c = 98 then some 8 else if c = 102 then some 12 else if c = 34 then some 34 else if c = 92 then some 92 else none
def plainV (c : Int) (m : Nat) : Int := match esc7 c with | some x => if x < m then x else -1 | none => -1
theorem esc7_hit {c x : Int} (h : esc7 c = some x) : letterV x = c ∧ letterV x ≠ 0 ∧ 0 ≤ x ∧ x < 160 := by
  unfold esc7 at h
  (repeat' split at h) <;> (first | (injection h with h; subst h; subst c; decide) | cases h)
theorem letter_hit {c m : Int} (h : letterV m = c) (h0 : letterV m ≠ 0) : esc7 c = some m := by
  subst h
  by_cases h9 : m = 9
  · subst h9; decide
  by_cases h10 : m = 10
  · subst h10; decide
  by_cases h13 : m = 13
  · subst h13; decide
  by_cases h8 : m = 8
  · subst h8; decide
  by_cases h12 : m = 12
  · subst h12; decide
  by_cases h34 : m = 34
  · subst h34; decide
  by_cases h92 : m = 92
  · subst h92; decide
  exact absurd (by unfold letterV; rw [if_neg h9, if_neg h10, if_neg h13, if_neg h8, if_neg h12, if_neg h34, if_neg h92]) h0
theorem plain_hit {c : Int} {m : Nat} (h : letterV m = c) (h0 : letterV m ≠ 0) : plainV c (m + 1) = m := by
  unfold plainV
  rw [letter_hit h h0]
  simp only
  rw [if_pos (by omega)]
theorem plain_miss {c : Int} {m : Nat} (h : ¬ (letterV m ≠ 0 ∧ letterV m = c)) : plainV c (m + 1) = plainV c m := by
  unfold plainV
  cases he : esc7 c with
  | none => rfl
  | some x =>
    obtain ⟨h1, h2, h3, h4⟩ := esc7_hit he
    simp only
    have hne : x ≠ (m : Int) := fun e => by subst e; exact h ⟨h2, h1⟩
    by_cases hx : x < (m : Int)
    · rw [if_pos hx, if_pos (by omega)]
    · rw [if_neg hx, if_neg (by omega)]
theorem plain_zero (c : Int) : plainV c 0 = -1 := by
  unfold plainV
  cases he : esc7 c with
  | none => rfl
  | some x => obtain ⟨h1, h2, h3, h4⟩ := esc7_hit he; simp only; rw [if_neg (by omega)]
theorem plain_end (c : Int) (h39 : c ≠ 39) : plainV c 160 = (escOf c).getD (-1) := by
  have e : escOf c = esc7 c := by
    unfold escOf esc7
    rw [if_neg h39]
  rw [e]
  unfold plainV
  cases he : esc7 c with
  | none => rfl
  | some x => obtain ⟨h1, h2, h3, h4⟩ := esc7_hit he; simp only; rw [if_pos (by omega)]; rfl
theorem letter_in (m : Int) : 0 ≤ letterV m ∧ letterV m ≤ 255 := by unfold letterV; (repeat' split) <;> omega
end Go.Proofs.YtbchkhjkajagfaaGreatDoor
