/- Contract over this seat's program: package value's Text. -/
import Derived.Test.YteeajhnbifpklaaDoorTvWalk
namespace Go.Proofs.YteeajhnbifpklaaDoor
open Go Go.RowKit
/-- the table that the printer reads -/
def TabV (w : World) : Prop := Lib.TabIs Tryd.prog w "internal/strconv.uint64pow10" .u64 Lib.pow10Tab
theorem TabV.below {w w' : World} (h : TabV w) (hb : Below w.heap.size w w') : TabV w' := Lib.tabBelow_of_tabIs h w' hb
theorem text_any (n : Int) (w : World) (h0 : -9223372036854775808 ≤ n) (h1 : n ≤ 9223372036854775807) (ht : TabV w) :
    Calls Tryd.prog 38 #[.int .i64 n] w fun e w' => e = .returned (.string ⟨(Lib.itoa n).toArray⟩) ∧ Below w.heap.size w w' := by
  have HC := Lib.hid (Tryd.strconv_FormatInt_10 n h0 h1 w ht)
  obtain ⟨R, hR⟩ : ∃ R : ByteArray, R = ⟨(Lib.itoa n).toArray⟩ := ⟨_, rfl⟩
  rw [← hR] at HC ⊢
  clear hR ht
  go_enter Tryd.func38, Tryd.ntmps38
  go_wp2_with fail
  refine HC.out.mono ?_
  rintro e w1 ⟨rfl, k, os, rfl⟩
  have HB := Lib.hid (Lib.below_grow w.heap.size w (Nat.le_refl _) k os)
  go_wp2_with fail
  go_ret
  exact ⟨rfl, HB.out⟩
end Go.Proofs.YteeajhnbifpklaaDoor
