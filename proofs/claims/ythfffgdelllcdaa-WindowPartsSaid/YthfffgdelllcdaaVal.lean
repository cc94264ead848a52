/- Contracts of package value's quotients over this seat's program: Div, Floor. No condition but the ranges of the integers. -/
import Derived.Test.YthfffgdelllcdaaRows
import Derived.Test.YthfffgdelllcdaaPlain
import Derived.WalkKit
import Derived.ProofKit
import Derived.OpenShut
import Derived.Handy
import Derived.Lib.Hide
namespace Go.Proofs.Ythfffgdelllcdaa
open Go.RowKit

theorem div_zero (a : Int) (w : World) :
    Calls Try.prog 34 #[.int .i64 a, .int .i64 0] w fun e w' => e = .returned (.tuple #[.int .i64 0, .int .i64 2]) ∧ w = w' := by
  go_enter Try.func34, Try.ntmps34
  go_wp2
  go_ret2
  exact ⟨rfl, rfl⟩
theorem div_over (w : World) :
    Calls Try.prog 34 #[.int .i64 (-9223372036854775808), .int .i64 (-1)] w fun e w' => e = .returned (.tuple #[.int .i64 0, .int .i64 9]) ∧ w = w' := by
  go_enter Try.func34, Try.ntmps34
  go_wp2
  go_ret2
  exact ⟨rfl, rfl⟩
theorem div_ok (a b : Int) (w : World) (ha : -9223372036854775808 ≤ a) (ha' : a ≤ 9223372036854775807) (_hb : -9223372036854775808 ≤ b) (_hb' : b ≤ 9223372036854775807)
    (h0 : b ≠ 0) (hn : ¬(a = -9223372036854775808 ∧ b = -1)) :
    Calls Try.prog 34 #[.int .i64 a, .int .i64 b] w fun e w' => e = .returned (.tuple #[.int .i64 (a.tdiv b), .int .i64 0]) ∧ w = w' := by
  have hw := wrap64_tdiv a b ha ha' hn
  have H := Lib.hid hw; clear hw
  by_cases h1 : a = -9223372036854775808
  · have h2 : b ≠ -1 := fun h => hn ⟨h1, h⟩
    subst h1
    go_enter Try.func34, Try.ntmps34
    go_wp2
    go_ret2
    have := H.out
    exact ⟨by simp at this ⊢; exact this, rfl⟩
  · clear hn
    go_enter Try.func34, Try.ntmps34
    go_wp2
    go_ret2
    have := H.out
    exact ⟨by simp [this], rfl⟩

theorem floor_zero (a : Int) (w : World) :
    Calls Try.prog 30 #[.int .i64 a, .int .i64 0] w fun e w' => e = .returned (.tuple #[.int .i64 0, .int .i64 2]) ∧ w = w' := by
  go_enter Try.func30, Try.ntmps30
  go_wp2_with (go_at_call 34; refine (div_zero _ _).mono ?_; rintro e w' ⟨rfl, rfl⟩)
  go_ret2
  exact ⟨rfl, rfl⟩
theorem floor_over (w : World) :
    Calls Try.prog 30 #[.int .i64 (-9223372036854775808), .int .i64 (-1)] w fun e w' => e = .returned (.tuple #[.int .i64 0, .int .i64 9]) ∧ w = w' := by
  go_enter Try.func30, Try.ntmps30
  go_wp2_with (go_at_call 34; refine (div_over _).mono ?_; rintro e w' ⟨rfl, rfl⟩)
  go_ret2
  exact ⟨rfl, rfl⟩
theorem floor_ok (a b : Int) (w : World) (ha : -9223372036854775808 ≤ a) (ha' : a ≤ 9223372036854775807) (hb : -9223372036854775808 ≤ b) (hb' : b ≤ 9223372036854775807)
    (h0 : b ≠ 0) (hn : ¬(a = -9223372036854775808 ∧ b = -1)) :
    Calls Try.prog 30 #[.int .i64 a, .int .i64 b] w fun e w' => e = .returned (.tuple #[.int .i64 (a.fdiv b), .int .i64 0]) ∧ w = w' := by
  have HN := Lib.hid hn; clear hn
  go_enter Try.func30, Try.ntmps30
  go_wp2_with (go_at_call 34; refine (div_ok a b _ ha ha' hb hb' h0 HN.out).mono ?_; rintro e w' ⟨rfl, rfl⟩)
  all_goals go_ret2
  · exact ⟨ret_two (int_eq (fdiv_case0 a b h0 (by assumption))) rfl, rfl⟩
  · exact ⟨ret_two (int_eq (fdiv_case1 a b ha ha' h0 (by assumption) (by assumption))) rfl, rfl⟩
  · exact ⟨ret_two (int_eq (fdiv_case2 a b h0 (by assumption) (by assumption))) rfl, rfl⟩
end Go.Proofs.Ythfffgdelllcdaa
