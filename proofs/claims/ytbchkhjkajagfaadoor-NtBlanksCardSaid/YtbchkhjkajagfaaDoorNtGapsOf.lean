/- A row of bytes that came in as an argument. -/
import Derived.Test.YtbchkhjkajagfaaDoorNtBlanks
import Derived.Test.YtbchkhjkajagfaaDoorPkA
import Derived.OpenShut
namespace Go.Proofs.YtbchkhjkajagfaaDoor
open Go Go.RowKit
set_option linter.unusedVariables false
theorem gaps_of {w : World} {a : Option Addr} {len cap : Nat} {z : List Int} (h : RowAt .u8 w a len cap z) : ∃ gs, GapsAt w a gs ∧ len = gs.length ∧ gs.length ≤ 9223372036854775807 := by
  rcases h with ⟨rfl, rfl, rfl, rfl⟩ | ⟨x, rfl, h1, h2, h3, h4, h5⟩
  · exact ⟨[], ⟨fun n hn => (by cases hn), .inl rfl⟩, rfl, by simp⟩
  · refine ⟨z.take len, ⟨fun n hn => bounds_u8 (h5 n (List.mem_of_mem_take hn)), ?_⟩, by rw [List.length_take]; omega, by rw [List.length_take]; unfold maxLen at h2; omega⟩
    rcases Nat.eq_zero_or_pos len with h0 | h0
    · left; rw [h0]; rfl
    · right
      obtain ⟨b, off, rfl, hc⟩ := ints_at h4 (by omega)
      refine ⟨b, off, rfl, ?_, fun j hj => ?_⟩
      · exact block_lt_of_cell (hc 0 (by omega))
      · rw [List.length_take] at hj
        rw [hc j (by omega), List.getElem_take]
        first | rfl | (rw [List.getD_eq_getElem?_getD, List.getElem?_eq_getElem (by omega)]; rfl)
end Go.Proofs.YtbchkhjkajagfaaDoor
