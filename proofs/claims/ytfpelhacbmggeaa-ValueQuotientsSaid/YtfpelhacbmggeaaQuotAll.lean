/- The law ValueQuotients at every a and b. -/
import Derived.Test.YtfpelhacbmggeaaQuotMain
namespace Go.Proofs.Ytfpelhacbmggeaa
open Go.RowKit
theorem fdiv_in (a b : Int) (ha : -9223372036854775808 ≤ a) (ha' : a ≤ 9223372036854775807) (h0 : b ≠ 0) (hn : ¬(a = -9223372036854775808 ∧ b = -1)) :
    -9223372036854775808 ≤ a.fdiv b ∧ a.fdiv b ≤ 9223372036854775807 := by
  rw [fdiv_tdiv a b h0]
  split
  · exact tdiv_sub_bd a b ha ha' (by rename_i h; exact h.1)
  · have := tdiv_bd a b ha ha' hn
    omega
theorem quot_walk (a b : Int) (w0 : (Lit.int .i64 a).wf = true) (w1 : (Lit.int .i64 b).wf = true) (w : World) :
    Calls Try.prog 4 #[.int .i64 a, .int .i64 b] w fun e w' => e = .returned (.bool true) ∧ Below w.heap.size w w' := by
  obtain ⟨ha, ha'⟩ := bounds_i64 w0
  obtain ⟨hb, hb'⟩ := bounds_i64 w1
  by_cases h0 : b = 0
  · subst h0; exact quot_zero a w
  by_cases hn : a = -9223372036854775808 ∧ b = -1
  · obtain ⟨rfl, rfl⟩ := hn; exact quot_over w
  have t := tdiv_bd a b ha ha' hn
  have f := fdiv_in a b ha ha' h0 hn
  exact quot_main a b w ha ha' hb hb' h0 hn _ _ rfl rfl (by omega) (by omega) f.1 f.2
end Go.Proofs.Ytfpelhacbmggeaa
