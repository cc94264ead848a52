/- What a tied card's row hands to its walk: the table of escapes, as it lies; and the laws' fixed fact. -/
import Derived.Test.YtbchkhjkajagfaaGreatDoorPkC
import Derived.LaidMore
import Derived.LaidLaws
import Derived.Lib.LaidTab
import Derived.MakeChecks
import Derived.Lay
import Derived.Test.YtbchkhjkajagfaaGreatDoorRows
namespace Go.Proofs.YtbchkhjkajagfaaGreatDoor
open Go Go.RowKit
set_option maxRecDepth 100000
theorem gEsc : Tryz.prog.globalNamed "beck/scan.escapes" = some 0 := by kernel_rfl
theorem tEsc : (Tryz.prog.globals[0]?).map (·.type) = some 118 := by kernel_rfl
def escLaid : List (String × DataW Unit) := [("beck/scan.escapes", Rows.laid_beck_scan_escapes)]
theorem esc_of_laid {W : World} (h : laidMetH Tryz.prog escLaid W) : Esc W := by
  rw [MakeChecks.laidMetH_plain _ _ _ (by kernel_rfl)] at h
  obtain ⟨ps, ⟨g0, t0, cs0, f0, p0, q0, hg0, ht0, hv0, hd0, _⟩, _⟩ := h
  obtain rfl := Option.some.inj (gEsc.symm.trans hg0)
  obtain rfl := Option.some.inj (tEsc.symm.trans ht0)
  obtain ⟨xs, m, rfl, hx, hlen, hn, hel⟩ := DataW.trod_array Tryz.underlying118 hd0
  have c2 : Tryz.prog.cellsOf 117 = 2 := by kernel_rfl
  have c1 : Tryz.prog.cellsOf 21 = 1 := by kernel_rfl
  have c16 : Tryz.prog.cellsOf 118 = 16 := by kernel_rfl
  rw [c2] at hel
  rw [c16] at hlen
  have hxs := (Prod.mk.inj hx).1
  simp only [Rows.laid_beck_scan_escapes, DataW.agg.injEq] at hxs
  have hpair : ∀ i, i < 8 → (cs0.toList.drop (i * 2)).take 2 = [.int .i32 (escT.getD (2 * i) 0), .int .i32 (escT.getD (2 * i + 1) 0)] := by
    intro i hi
    have h1 := hel i hi
    obtain ⟨y, hy⟩ : ∃ y, xs[i]? = some y := ⟨xs[i]'(by omega), List.getElem?_eq_getElem (by omega)⟩
    rw [hy] at h1
    have h2 : (xs.map (·.1))[i]? = some y.1 := by rw [List.getElem?_map, hy]; rfl
    rw [← hxs] at h2
    have h3 : y.1 = Lib.tabData .i32 [escT.getD (2 * i) 0, escT.getD (2 * i + 1) 0] := by
      rcases (by omega : i = 0 ∨ i = 1 ∨ i = 2 ∨ i = 3 ∨ i = 4 ∨ i = 5 ∨ i = 6 ∨ i = 7) with rfl | rfl | rfl | rfl | rfl | rfl | rfl | rfl
      all_goals exact (Option.some.inj h2).symm
    obtain ⟨y1, y2⟩ := y
    simp only at h3
    subst h3
    exact Lib.cells_of_tab (n := 2) Tryz.underlying117 Tryz.underlying21 c1 c2 h1
  intro j hj
  rw [World.var?_cell hg0 hv0 j]
  have hj2 := hpair (j / 2) (by omega)
  have e : cs0[j]? = ((cs0.toList.drop (j / 2 * 2)).take 2)[j % 2]? := by
    rw [List.getElem?_take_of_lt (by omega), List.getElem?_drop, Array.getElem?_toList]
    congr 1
    omega
  rw [e, hj2]
  rcases (by omega : j % 2 = 0 ∨ j % 2 = 1) with h | h
  · rw [h]
    have : j = 2 * (j / 2) := by omega
    conv => rhs; rw [this]
    rfl
  · rw [h]
    have : j = 2 * (j / 2) + 1 := by omega
    conv => rhs; rw [this]
    rfl
theorem nt_met (os : Os) (args : Array Value) : laidMetH Tryz.prog escLaid ((World.laidAll Tryz.prog os escLaid).forCall (fun _ _ => 0) ⟨#[], args, []⟩).memory := by
  rw [MakeChecks.laidMetH_plain _ _ _ (by kernel_rfl)]
  exact laidMet_laidAll _ (by kernel_rfl) (by kernel_rfl)
end Go.Proofs.YtbchkhjkajagfaaGreatDoor
