/- Plain laws: the literals of integers and truths: their integers, their truths. No program is walked here. -/
import Derived.Test.YteeajhnbifpklaaDoorTmEff
import Derived.Lib.ItoaLen
namespace Go.Proofs.YteeajhnbifpklaaDoor
open Go Go.RowKit
set_option linter.unusedVariables false
set_option linter.unusedSimpArgs false
abbrev litI (a : Int) : Tm := .lit (intB a) xInt ⟨#[]⟩
abbrev litB (x : Bool) : Tm := .lit (boolB x) xBool ⟨#[]⟩

set_option linter.unusedVariables false
theorem nP_of (l : List UInt8) (n : Int) (h : isNum l = true ∧ numT l = n) (n0 : -9223372036854775808 ≤ n) (n1 : n ≤ 9223372036854775807) : nP l = n ∧ eP l = 0 := by
  have hf : fits n = true := (fits_iff n).2 ⟨n0, n1⟩
  unfold nP eP
  rw [h.1, h.2, hf]
  exact ⟨rfl, rfl⟩
def Fit (n : Int) : Prop := -9223372036854775808 ≤ n ∧ n ≤ 9223372036854775807
theorem itoa_parse {n : Int} (h : Fit n) : nP (Lib.itoa n) = n ∧ eP (Lib.itoa n) = 0 := nP_of _ n (itoa_num n) h.1 h.2
theorem xI_eq : ⟨#[104, 116, 116, 112, 58, 47, 47, 119, 119, 119, 46, 119, 51, 46, 111, 114, 103, 47, 50, 48, 48, 49, 47, 88, 77, 76, 83, 99, 104, 101, 109, 97, 35, 105, 110, 116, 101, 103, 101, 114]⟩ = xInt := rfl
theorem xB_eq : ⟨#[104, 116, 116, 112, 58, 47, 47, 119, 119, 119, 46, 119, 51, 46, 111, 114, 103, 47, 50, 48, 48, 49, 47, 88, 77, 76, 83, 99, 104, 101, 109, 97, 35, 98, 111, 111, 108, 101, 97, 110]⟩ = xBool := rfl
theorem self_same (x : ByteArray) : sameS x x = true := by unfold sameS; simp
theorem facts_x : isInt xInt = true ∧ isBool xInt = false ∧ isInt xBool = false ∧ isBool xBool = true ∧ isStr xInt = false ∧ isLang xInt = false ∧ isStr xBool = false ∧ isLang xBool = false ∧ sameS xInt xBool = false := by
  simp only [isInt_data, isBool_data, isStr_data, isLang_data, sameS_data]
  decide +kernel
theorem known_x : knownV xInt = true ∧ knownV xBool = true := by
  unfold knownV
  rw [facts_x.1, facts_x.2.2.2.1]; simp
theorem ai_int {a : Int} (ha : Fit a) : aiE (litI a) = 0 ∧ aiN (litI a) = a := by
  constructor
  · show (if isInt xInt then (if eP (Lib.itoa a) = 1 then 3 else eP (Lib.itoa a)) else 10) = 0
    rw [facts_x.1, (itoa_parse ha).2]; rfl
  · show (if isInt xInt then nP (Lib.itoa a) else 0) = a
    rw [facts_x.1, (itoa_parse ha).1]; rfl
theorem true_bool (x : Bool) : isTrue (boolB x) = x ∧ (isTrue (boolB x) || isFalse (boolB x)) = true := by
  unfold isTrue isFalse
  simp only [Lib.toList_data]
  cases x <;> decide +kernel
theorem ab_bool (x : Bool) : abE (litB x) = 0 ∧ abV (litB x) = x := by
  constructor
  · show (if isBool xBool then (if isTrue (boolB x) then 0 else if isFalse (boolB x) then 0 else 3) else 10) = (0 : Int)
    rw [facts_x.2.2.2.1, if_pos rfl]
    have := (true_bool x).2
    cases h : isTrue (boolB x)
    · rw [h] at this; simp at this; rw [this]; rfl
    · rfl
  · show (isBool xBool && isTrue (boolB x)) = x
    rw [facts_x.2.2.2.1, (true_bool x).1]; rfl
end Go.Proofs.YteeajhnbifpklaaDoor
