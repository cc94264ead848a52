/- The law ValueFloors answers true at every a and b: downwards a quotient is the one towards 0, or one less, just if that is above it. No condition. -/
import Derived.Test.YtfpelhacbmggeaaVal
import Derived.Test.YtfpelhacbmggeaaTruth
namespace Go.Proofs.Ytfpelhacbmggeaa
open Go.RowKit
theorem floors_walk (a b : Int) (w0 : (Lit.int .i64 a).wf = true) (w1 : (Lit.int .i64 b).wf = true) (w : World) :
    Calls Try.prog 5 #[.int .i64 a, .int .i64 b] w fun e w' => e = .returned (.bool true) ∧ Grown w w' := by
  obtain ⟨ha, ha'⟩ := bounds_i64 w0
  obtain ⟨hb, hb'⟩ := bounds_i64 w1
  clear w0 w1
  by_cases h0 : b = 0
  · subst h0
    go_enter Try.func5, Try.ntmps5
    go_wp2_with (first | (go_at_call 11; refine (awake_any _).mono ?_; rintro e w' ⟨rfl, hg⟩) | (go_at_call 16; refine (div_zero _ _).mono ?_; rintro e w' ⟨rfl, rfl⟩) | (go_at_call 17; refine (floor_zero _ _).mono ?_; rintro e w' ⟨rfl, rfl⟩))
    go_ret
    exact ⟨rfl, hg⟩
  · by_cases h1 : a = -9223372036854775808 ∧ b = -1
    · obtain ⟨rfl, rfl⟩ := h1
      clear h0 ha ha' hb hb'
      go_enter Try.func5, Try.ntmps5
      go_wp2_with (first | (go_at_call 11; refine (awake_any _).mono ?_; rintro e w' ⟨rfl, hg⟩) | (go_at_call 16; refine (div_over _).mono ?_; rintro e w' ⟨rfl, rfl⟩) | (go_at_call 17; refine (floor_over _).mono ?_; rintro e w' ⟨rfl, rfl⟩))
      go_ret
      exact ⟨rfl, hg⟩
    · have H1 := Lib.hid h1; clear h1
      go_enter Try.func5, Try.ntmps5
      go_wp2_with (first | (go_at_call 11; refine (awake_any _).mono ?_; rintro e w' ⟨rfl, hg⟩) | (go_at_call 16; refine (div_ok a b _ ha ha' hb hb' h0 H1.out).mono ?_; rintro e w' ⟨rfl, rfl⟩) | (go_at_call 17; refine (floor_ok a b _ ha ha' hb hb' h0 H1.out).mono ?_; rintro e w' ⟨rfl, rfl⟩))
      all_goals go_ret
      · exact ⟨ret_bool (by rw [fdiv_case0 a b h0 (by assumption)]; simp), hg⟩
      · exact ⟨ret_bool (by rw [fdiv_case1 a b ha ha' h0 (by assumption) (by assumption)]; simp), hg⟩
      · exact ⟨ret_bool (by rw [fdiv_case2 a b h0 (by assumption) (by assumption)]; simp), hg⟩
end Go.Proofs.Ytfpelhacbmggeaa
