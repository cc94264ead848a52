/- What a tied card's row hands to its walk: the table of powers of ten, and the two errors, as they lie. -/
import Derived.Test.YteeajhnbifpklaaGreatDoorTvWalk
import Derived.LaidMore
import Derived.LaidLaws
import Derived.Lib.LaidTab
import Derived.MakeChecks
import Derived.Stop.LaidErr
namespace Go.Proofs.YteeajhnbifpklaaGreatDoor
open Go Go.RowKit
theorem gErr : Tryz.prog.globalNamed "strconv.ErrRange" = some 1 := by kernel_rfl
theorem tErr : (Tryz.prog.globals[1]?).map (·.type) = some 75 := by kernel_rfl
theorem starE : "*" ++ "errors.errorString" = "*errors.errorString" := by decide
theorem rowE (u : TypeId) (h : Tryz.prog.typeName? 3 u = some "*errors.errorString") : u = 103 :=
  typeName_ptr_named (nm := "errors.errorString") (by rw [starE]; kernel_rfl) (by kernel_rfl) (by decide) u (by rw [starE]; exact h)
def escLaid : List (String × DataW Unit) := [("math/bits.deBruijn32tab", Rows.laid_math_bits_deBruijn32tab), ("math/bits.deBruijn64tab", Rows.laid_math_bits_deBruijn64tab), ("internal/strconv.uint64pow10", Rows.laid_internal_strconv_uint64pow10), ("strconv.ErrRange", Rows.laid_strconv_ErrRange), ("strconv.ErrSyntax", Rows.laid_strconv_ErrSyntax)]
theorem errv_of_laid {W : World} (h : laidMetH Tryz.prog escLaid W) : ErrV W := by
  rw [MakeChecks.laidMetH_plain _ _ _ (by kernel_rfl)] at h
  have h3 := h.tail.tail.tail
  obtain ⟨a, s, hv, _⟩ := laid_sentinel h3 gErr tErr Tryz.underlying75 rowE Tryz.underlying103 Tryz.underlying105 rfl rfl Tryz.underlying9 (by kernel_rfl) (by kernel_rfl)
  exact ⟨_, _, by simpa using World.var?_cell gErr hv 0⟩
theorem door_met (os : Os) (args : Array Value) : laidMetH Tryz.prog escLaid ((World.doorLaid Tryz.prog 72 os).forCall (fun _ _ => 0) ⟨#[], args, []⟩).memory :=
  laidMetH_of_parts3 (fuel := 8) (laidMet_of_run' 8 (by kernel_rfl) (by kernel_rfl)) (by kernel_rfl) (by kernel_rfl)
end Go.Proofs.YteeajhnbifpklaaGreatDoor
