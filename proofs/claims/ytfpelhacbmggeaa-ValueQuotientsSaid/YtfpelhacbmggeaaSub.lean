/- Contracts of package value's difference and order, and the laws' own order, over this seat's program. No condition but the ranges of the integers. -/
import Derived.Test.YtfpelhacbmggeaaRows
import Derived.Test.YtfpelhacbmggeaaPlain
import Derived.Test.YtfpelhacbmggeaaSumPlain
import Derived.WalkKit
import Derived.ProofKit
import Derived.OpenShut
import Derived.Handy
import Derived.Lib.Hide
namespace Go.Proofs.Ytfpelhacbmggeaa
open Go.RowKit
theorem sub_ok (a b : Int) (w : World) (ha : -9223372036854775808 ≤ a) (ha' : a ≤ 9223372036854775807) (hb : -9223372036854775808 ≤ b) (hb' : b ≤ 9223372036854775807) (h : fits (a - b) = true) :
    Calls Try.prog 25 #[.int .i64 a, .int .i64 b] w fun e w' => e = .returned (.tuple #[.int .i64 (a - b), .int .i64 0]) ∧ w = w' := by
  have h1 : (decide (wrap64 (a - b) < a) == decide (0 < b)) = true := by rw [sub_fits a b ha ha' hb hb', h]
  have H := Lib.hid (wrap64_fits _ h)
  clear h ha ha' hb hb'
  go_enter Try.func25, Try.ntmps25
  go_wp2
  go_ret2
  exact ⟨ret_two (int_eq H.out) rfl, rfl⟩
theorem sub_none (a b : Int) (w : World) (ha : -9223372036854775808 ≤ a) (ha' : a ≤ 9223372036854775807) (hb : -9223372036854775808 ≤ b) (hb' : b ≤ 9223372036854775807) (h : fits (a - b) = false) :
    Calls Try.prog 25 #[.int .i64 a, .int .i64 b] w fun e w' => e = .returned (.tuple #[.int .i64 0, .int .i64 9]) ∧ w = w' := by
  have h1 : (decide (wrap64 (a - b) < a) == decide (0 < b)) = false := by rw [sub_fits a b ha ha' hb hb', h]
  clear h ha ha' hb hb'
  go_enter Try.func25, Try.ntmps25
  go_wp2
  go_ret2
  exact ⟨rfl, rfl⟩
theorem order_lt (a b : Int) (w : World) (h : a < b) : Calls Try.prog 23 #[.int .i64 a, .int .i64 b] w fun e w' => e = .returned (.int .i64 (-1)) ∧ w = w' := by
  go_enter Try.func23, Try.ntmps23
  go_wp2
  go_ret
  exact ⟨rfl, rfl⟩
theorem order_eq (a : Int) (w : World) : Calls Try.prog 23 #[.int .i64 a, .int .i64 a] w fun e w' => e = .returned (.int .i64 0) ∧ w = w' := by
  go_enter Try.func23, Try.ntmps23
  go_wp2
  go_ret
  exact ⟨rfl, rfl⟩
theorem order_gt (a b : Int) (w : World) (h : b < a) : Calls Try.prog 23 #[.int .i64 a, .int .i64 b] w fun e w' => e = .returned (.int .i64 1) ∧ w = w' := by
  go_enter Try.func23, Try.ntmps23
  go_wp2
  go_ret
  exact ⟨rfl, rfl⟩
/-- -1, 0, 1 -/
def ordV (a b : Int) : Int := if a < b then -1 else if b < a then 1 else 0
theorem order_any (a b : Int) (w : World) : Calls Try.prog 23 #[.int .i64 a, .int .i64 b] w fun e w' => e = .returned (.int .i64 (ordV a b)) ∧ w = w' := by
  rcases Int.lt_trichotomy a b with h | h | h
  · have e : ordV a b = -1 := by simp [ordV, h]
    rw [e]; exact order_lt a b w h
  · subst h
    have e : ordV a a = 0 := by simp [ordV]
    rw [e]; exact order_eq a w
  · have e : ordV a b = 1 := by simp [ordV, h]; omega
    rw [e]; exact order_gt a b w h
theorem law_order_any (a b : Int) (w : World) : Calls Try.prog 24 #[.int .i64 a, .int .i64 b] w fun e w' => e = .returned (.int .i64 (ordV a b)) ∧ w = w' := by
  rcases Int.lt_trichotomy a b with h | h | h
  · have e : ordV a b = -1 := by simp [ordV, h]
    rw [e]
    clear e
    go_enter Try.func24, Try.ntmps24
    go_wp2
    go_ret
    exact ⟨rfl, rfl⟩
  · subst h
    have e : ordV a a = 0 := by simp [ordV]
    rw [e]
    clear e
    go_enter Try.func24, Try.ntmps24
    go_wp2
    go_ret
    exact ⟨rfl, rfl⟩
  · have e : ordV a b = 1 := by simp [ordV, h]; omega
    rw [e]
    clear e
    go_enter Try.func24, Try.ntmps24
    go_wp2
    go_ret
    exact ⟨rfl, rfl⟩
end Go.Proofs.Ytfpelhacbmggeaa
