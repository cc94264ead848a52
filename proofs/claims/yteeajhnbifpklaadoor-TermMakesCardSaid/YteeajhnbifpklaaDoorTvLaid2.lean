/- What a tied card's row hands to its walk (the rows that read the library's tables of UTF-8 too): the table of powers of ten, and the two errors, as they lie. -/
import Derived.Test.YteeajhnbifpklaaDoorTvLaid
import Derived.Lay
namespace Go.Proofs.YteeajhnbifpklaaDoor
open Go Go.RowKit
def makLaid : List (String × DataW Unit) := [("math/bits.deBruijn32tab", Rows.laid_math_bits_deBruijn32tab), ("math/bits.deBruijn64tab", Rows.laid_math_bits_deBruijn64tab), ("internal/strconv.uint64pow10", Rows.laid_internal_strconv_uint64pow10), ("unicode/utf8.acceptRanges", Rows.laid_unicode_utf8_acceptRanges), ("strconv.ErrRange", Rows.laid_strconv_ErrRange), ("strconv.ErrSyntax", Rows.laid_strconv_ErrSyntax), ("unicode/utf8.first", Rows.laid_unicode_utf8_first)]
theorem mak_of_laid {W : World} (h : laidMetH Tryd.prog makLaid W) : TabV W ∧ ErrV W := by
  rw [MakeChecks.laidMetH_plain _ _ _ (by kernel_rfl)] at h
  have h2 := h.tail.tail
  have h3 := h2.tail.tail
  constructor
  · exact Lib.tabIs_of_head gTab tTab Tryd.underlying129 Tryd.underlying116 (by kernel_rfl) (by kernel_rfl) h2
  · obtain ⟨a, s, hv, _⟩ := laid_sentinel h3 gErr tErr Tryd.underlying90 rowE Tryd.underlying142 Tryd.underlying144 rfl rfl Tryd.underlying9 (by kernel_rfl) (by kernel_rfl)
    exact ⟨_, _, by simpa using World.var?_cell gErr hv 0⟩
theorem mak_met (os : Os) (args : Array Value) : laidMetH Tryd.prog makLaid ((World.laidAll Tryd.prog os makLaid).forCall (fun _ _ => 0) ⟨#[], args, []⟩).memory := by
  rw [MakeChecks.laidMetH_plain _ _ _ (by kernel_rfl)]
  exact laidMet_laidAll _ (by kernel_rfl) (by kernel_rfl)
end Go.Proofs.YteeajhnbifpklaaDoor
