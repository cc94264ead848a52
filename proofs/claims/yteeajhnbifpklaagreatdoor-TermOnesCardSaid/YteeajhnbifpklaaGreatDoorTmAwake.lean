/- The fixed fact of the laws of layer 3 over this seat's program. -/
import Derived.Test.YteeajhnbifpklaaGreatDoorTmEqu
import Derived.Deep.RegionHeld3
namespace Go.Proofs.YteeajhnbifpklaaGreatDoor
open Go Go.RowKit
set_option linter.unusedVariables false
set_option linter.unusedSimpArgs false
theorem sameS_data (x y : ByteArray) : sameS x y = (x.data.toList == y.data.toList) := by unfold sameS; rw [Lib.toList_data, Lib.toList_data]
theorem isInt_data (x : ByteArray) : isInt x = (x.data.toList == xIntB) := by unfold isInt; rw [Lib.toList_data]
theorem isBool_data (x : ByteArray) : isBool x = (x.data.toList == xBoolB) := by unfold isBool; rw [Lib.toList_data]
theorem isStr_data (x : ByteArray) : isStr x = (x.data.toList == xStringB) := by unfold isStr; rw [Lib.toList_data]
theorem isLang_data (x : ByteArray) : isLang x = (x.data.toList == xLangL) := by unfold isLang; rw [Lib.toList_data]
def oneA : Tm := .lit ⟨#[49]⟩ xInt ⟨#[]⟩
def oneB : Tm := .lit ⟨#[48, 49]⟩ xInt ⟨#[]⟩
theorem isInt_xInt : isInt xInt = true := by rw [isInt_data]; decide +kernel
theorem one_eqT : eqT oneA oneB = false := by
  show (sameS _ _ && (sameS _ _ && sameS _ _)) = false
  rw [sameS_data]
  rfl
theorem one_nP : nP [49] = 1 ∧ eP [49] = 0 ∧ nP [48, 49] = 1 ∧ eP [48, 49] = 0 := by decide +kernel
theorem one_equal : equalV oneA oneB = 1 := by
  unfold equalV
  rw [one_eqT, if_neg (by simp)]
  show (if (true && true) = true then (if (isInt xInt && isInt xInt) = true then bothI oneA oneB else _) else 0) = 1
  rw [isInt_xInt]
  have e1 : aiE oneA = 0 ∧ aiN oneA = 1 := by
    show (if isInt xInt then (if eP [49] = 1 then 3 else eP [49]) else 10) = 0 ∧ (if isInt xInt then nP [49] else 0) = 1
    rw [isInt_xInt, one_nP.1, one_nP.2.1]; exact ⟨rfl, rfl⟩
  have e2 : aiE oneB = 0 ∧ aiN oneB = 1 := by
    show (if isInt xInt then (if eP [48, 49] = 1 then 3 else eP [48, 49]) else 10) = 0 ∧ (if isInt xInt then nP [48, 49] else 0) = 1
    rw [isInt_xInt, one_nP.2.2.1, one_nP.2.2.2]; exact ⟨rfl, rfl⟩
  simp [bothI, e1.1, e1.2, e2.1, e2.2, truthV]
theorem one_good (w : World) : Calls Tryz.prog 12 #[tmV oneA] w fun e w' => e = .returned (.bool true) ∧ Below w.heap.size w w' :=
  tgood_lit _ _ _ w (fun w => lit_yes ⟨#[49]⟩ xInt [49] w (read_ascii _ _ (by decide +kernel) (by decide +kernel)) (by decide +kernel) (by rw [Lib.toList_data]; decide +kernel) iri_xInt)
set_option maxRecDepth 100000 in
set_option maxHeartbeats 1600000 in
theorem awake3_any (w : World) (hv : ErrV w) : Calls Tryz.prog 4 #[] w fun e w' => e = .returned (.bool true) ∧ Below w.heap.size w w' := by
  have SM : Hid (∀ w, Calls Tryz.prog 20 #[.iface 53 (.agg #[.string ⟨#[49]⟩, .string ⟨#[104, 116, 116, 112, 58, 47, 47, 119, 119, 119, 46, 119, 51, 46, 111, 114, 103, 47, 50, 48, 48, 49, 47, 88, 77, 76, 83, 99, 104, 101, 109, 97, 35, 105, 110, 116, 101, 103, 101, 114]⟩, .string ⟨#[]⟩]), .iface 53 (.agg #[.string ⟨#[48, 49]⟩, .string ⟨#[104, 116, 116, 112, 58, 47, 47, 119, 119, 119, 46, 119, 51, 46, 111, 114, 103, 47, 50, 48, 48, 49, 47, 88, 77, 76, 83, 99, 104, 101, 109, 97, 35, 105, 110, 116, 101, 103, 101, 114]⟩, .string ⟨#[]⟩])] w fun e w' => e = .returned (.bool false) ∧ w' = w) := Lib.hid (fun w => by
    have := same_any oneA oneB w
    rw [one_eqT] at this
    exact this.mono (fun e w' h => ⟨h.1, h.2.symm⟩))
  have EQ : Hid (∀ w, ErrV w → Calls Tryz.prog 21 #[.iface 53 (.agg #[.string ⟨#[49]⟩, .string ⟨#[104, 116, 116, 112, 58, 47, 47, 119, 119, 119, 46, 119, 51, 46, 111, 114, 103, 47, 50, 48, 48, 49, 47, 88, 77, 76, 83, 99, 104, 101, 109, 97, 35, 105, 110, 116, 101, 103, 101, 114]⟩, .string ⟨#[]⟩]), .iface 53 (.agg #[.string ⟨#[48, 49]⟩, .string ⟨#[104, 116, 116, 112, 58, 47, 47, 119, 119, 119, 46, 119, 51, 46, 111, 114, 103, 47, 50, 48, 48, 49, 47, 88, 77, 76, 83, 99, 104, 101, 109, 97, 35, 105, 110, 116, 101, 103, 101, 114]⟩, .string ⟨#[]⟩])] w fun e w' => e = .returned (.int .u8 1) ∧ Below w.heap.size w w') := Lib.hid (fun w hv => by
    have := equal_any oneA oneB w ⟨by decide +kernel, by decide +kernel, by decide +kernel⟩ ⟨by decide +kernel, by decide +kernel, by decide +kernel⟩ hv
    rw [one_equal] at this
    exact this)
  have GD : Hid (∀ w, Calls Tryz.prog 12 #[.iface 53 (.agg #[.string ⟨#[49]⟩, .string ⟨#[104, 116, 116, 112, 58, 47, 47, 119, 119, 119, 46, 119, 51, 46, 111, 114, 103, 47, 50, 48, 48, 49, 47, 88, 77, 76, 83, 99, 104, 101, 109, 97, 35, 105, 110, 116, 101, 103, 101, 114]⟩, .string ⟨#[]⟩])] w fun e w' => e = .returned (.bool true) ∧ Below w.heap.size w w') := Lib.hid (fun w => one_good w)
  have HV := Lib.hid hv
  clear hv
  go_enter Tryz.func4, Tryz.ntmps4
  go_wp2_with fail
  refine (SM.out _).mono ?_
  rintro e w' ⟨rfl, rfl⟩
  obtain ⟨w3, h3⟩ : ∃ w3, w3 = (w.alloc (.cells #[.string ⟨#[49]⟩, .string ⟨#[104, 116, 116, 112, 58, 47, 47, 119, 119, 119, 46, 119, 51, 46, 111, 114, 103, 47, 50, 48, 48, 49, 47, 88, 77, 76, 83, 99, 104, 101, 109, 97, 35, 105, 110, 116, 101, 103, 101, 114]⟩, .string ⟨#[]⟩] 53)).alloc (.cells #[.string ⟨#[48, 49]⟩, .string ⟨#[104, 116, 116, 112, 58, 47, 47, 119, 119, 119, 46, 119, 51, 46, 111, 114, 103, 47, 50, 48, 48, 49, 47, 88, 77, 76, 83, 99, 104, 101, 109, 97, 35, 105, 110, 116, 101, 103, 101, 114]⟩, .string ⟨#[]⟩] 53) := ⟨_, rfl⟩
  have HB : Hid (Below w.heap.size w w3) := Lib.hid (by rw [h3]; go_grown)
  have c0 : w3.cell? ⟨w.heap.size, 0, none⟩ = some (.string ⟨#[49]⟩) := by rw [h3]; simp [go_sem]
  have c1 : w3.cell? ⟨w.heap.size, 1, none⟩ = some (.string ⟨#[104, 116, 116, 112, 58, 47, 47, 119, 119, 119, 46, 119, 51, 46, 111, 114, 103, 47, 50, 48, 48, 49, 47, 88, 77, 76, 83, 99, 104, 101, 109, 97, 35, 105, 110, 116, 101, 103, 101, 114]⟩) := by rw [h3]; simp [go_sem]
  have c2 : w3.cell? ⟨w.heap.size, 2, none⟩ = some (.string ⟨#[]⟩) := by rw [h3]; simp [go_sem]
  have c3 : w3.cell? ⟨w.heap.size + 1, 0, none⟩ = some (.string ⟨#[48, 49]⟩) := by rw [h3]; simp [go_sem]
  have c4 : w3.cell? ⟨w.heap.size + 1, 1, none⟩ = some (.string ⟨#[104, 116, 116, 112, 58, 47, 47, 119, 119, 119, 46, 119, 51, 46, 111, 114, 103, 47, 50, 48, 48, 49, 47, 88, 77, 76, 83, 99, 104, 101, 109, 97, 35, 105, 110, 116, 101, 103, 101, 114]⟩) := by rw [h3]; simp [go_sem]
  have c5 : w3.cell? ⟨w.heap.size + 1, 2, none⟩ = some (.string ⟨#[]⟩) := by rw [h3]; simp [go_sem]
  rw [← h3]
  clear h3
  go_wp2_with fail
  refine (EQ.out _ (HV.out.below HB.out)).mono ?_
  rintro e w4 ⟨rfl, hb4⟩
  replace c0 := cell_below c0 hb4
  replace c1 := cell_below c1 hb4
  replace c2 := cell_below c2 hb4
  replace HB := Lib.hid (HB.out.trans (hb4.mono HB.out.size))
  clear hb4 c3 c4 c5
  go_wp2_with fail
  refine (GD.out _).mono ?_
  rintro e w5 ⟨rfl, hb5⟩
  have HZ := Lib.hid (HB.out.trans (hb5.mono HB.out.size))
  clear hb5
  go_wp2_with fail
  go_ret
  exact ⟨rfl, HZ.out⟩
end Go.Proofs.YteeajhnbifpklaaGreatDoor
