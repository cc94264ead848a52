/- The law ScanClasses: its walk. Every number. -/
import Derived.Test.YteicjmippeobpaaDoorScLaid
namespace Go.Proofs.YteicjmippeobpaaDoor
open Go Go.RowKit
set_option maxHeartbeats 800000 in
theorem classes_walk (n : Int) (n0 : -2147483648 ≤ n) (n1 : n ≤ 2147483647) (w : World) (he : Esc w) : Calls Tryd.prog 5 #[.int .i32 n] w fun e w' => e = .returned (.bool true) ∧ Below w.heap.size w w' := by
  have HA := Lib.hid (awake_any w he)
  clear he
  go_enter Tryd.func5, Tryd.ntmps5
  go_wp2_with fail
  refine HA.out.mono ?_
  rintro e w1 ⟨rfl, hb⟩
  go_wp2_with (first
    | (go_at_call 17; refine (class_any n _ (by omega) (by omega)).mono ?_; rintro e w' ⟨rfl, rfl⟩)
    | (go_at_call 16; refine (rclass_any n _ (by omega) (by omega)).mono ?_; rintro e w' ⟨rfl, rfl⟩)
    | (go_at_call 18; refine (hex_any n _ (by omega) (by omega)).mono ?_; rintro e w' ⟨rfl, rfl⟩)
    | (go_at_call 19; refine (rhex_any n _ (by omega) (by omega)).mono ?_; rintro e w' ⟨rfl, rfl⟩))
  go_ret
  exact ⟨rfl, hb⟩
end Go.Proofs.YteicjmippeobpaaDoor
