/- Plain laws on sums and products of integers of 64 bits. No program in sight. -/
import Derived.WalkKit
namespace Go.Proofs.Ytghimladdioajaa
open Go Go.RowKit
/-- it is one of 64 bits -/
def fits (n : Int) : Bool := decide (-9223372036854775808 ≤ n) && decide (n ≤ 9223372036854775807)
theorem fits_iff (n : Int) : fits n = true ↔ -9223372036854775808 ≤ n ∧ n ≤ 9223372036854775807 := by simp [fits]
theorem fits_not (n : Int) : fits n = false ↔ n < -9223372036854775808 ∨ 9223372036854775807 < n := by
  rw [← Bool.not_eq_true, fits_iff]; omega
theorem wrap64_fits (n : Int) (h : fits n = true) : wrap64 n = n := IntWalk.wrap64_in _ ((fits_iff n).1 h)
theorem add_fits (a b : Int) (ha : -9223372036854775808 ≤ a) (ha' : a ≤ 9223372036854775807) (hb : -9223372036854775808 ≤ b) (hb' : b ≤ 9223372036854775807) :
    (decide (a < wrap64 (a + b)) == decide (0 < b)) = fits (a + b) := by
  rw [Bool.eq_iff_iff, fits_iff]
  simp only [beq_iff_eq, decide_eq_decide]
  unfold wrap64
  omega
theorem sub_fits (a b : Int) (ha : -9223372036854775808 ≤ a) (ha' : a ≤ 9223372036854775807) (hb : -9223372036854775808 ≤ b) (hb' : b ≤ 9223372036854775807) :
    (decide (wrap64 (a - b) < a) == decide (0 < b)) = fits (a - b) := by
  rw [Bool.eq_iff_iff, fits_iff]
  simp only [beq_iff_eq, decide_eq_decide]
  unfold wrap64
  omega
/-- the size, without the sign -/
def szV (a : Int) : Int := if a < 0 then -a else a
theorem szV_bd (a : Int) (ha : -9223372036854775808 ≤ a) (ha' : a ≤ 9223372036854775807) : 0 ≤ szV a ∧ szV a ≤ 9223372036854775808 := by
  unfold szV; split <;> omega
theorem szV_neg (a : Int) (ha : -9223372036854775808 ≤ a) (h : a < 0) : IntKind.u64.wrap (-IntKind.u64.wrap a) = szV a := by
  unfold szV; rw [if_pos h, IntKind.wrap_u64, IntKind.wrap_u64]; omega
theorem szV_pos (a : Int) (h : 0 ≤ a) : a = szV a := by
  unfold szV; rw [if_neg (by omega)]
/-- the product of two sizes, in two words -/
def hiV (x y : Int) : Int := x * y / 18446744073709551616
def loV (x y : Int) : Int := x * y % 18446744073709551616
theorem hilo (p m : Int) (h0 : 0 ≤ p) (hm : m < 18446744073709551616) : (p / 18446744073709551616 = 0 ∧ p % 18446744073709551616 ≤ m) ↔ p ≤ m := by omega
theorem mul_fits_same (a b : Int) (h : a < 0 ↔ b < 0) :
    (hiV (szV a) (szV b) == 0 && decide (loV (szV a) (szV b) ≤ 9223372036854775807)) = fits (a * b) := by
  have e : szV a * szV b = a * b := by
    unfold szV
    by_cases h1 : a < 0
    · rw [if_pos h1, if_pos (h.1 h1), Int.neg_mul_neg]
    · rw [if_neg h1, if_neg (fun hb => h1 (h.2 hb))]
  have h0 : 0 ≤ szV a * szV b := Int.mul_nonneg (by unfold szV; split <;> omega) (by unfold szV; split <;> omega)
  rw [Bool.eq_iff_iff, fits_iff]
  unfold hiV loV
  simp only [Bool.and_eq_true, beq_iff_eq, decide_eq_true_eq]
  rw [hilo _ _ h0 (by omega), e]
  rw [e] at h0
  omega
theorem mul_fits_diff (a b : Int) (h : ¬(a < 0 ↔ b < 0)) :
    (hiV (szV a) (szV b) == 0 && decide (loV (szV a) (szV b) ≤ 9223372036854775808)) = fits (a * b) := by
  have e : szV a * szV b = -(a * b) := by
    unfold szV
    by_cases h1 : a < 0
    · by_cases h2 : b < 0
      · exact absurd (by simp [h1, h2]) h
      · rw [if_pos h1, if_neg h2, Int.neg_mul]
    · by_cases h2 : b < 0
      · rw [if_neg h1, if_pos h2, Int.mul_neg]
      · exact absurd (by simp [h1, h2]) h
  have h0 : 0 ≤ szV a * szV b := Int.mul_nonneg (by unfold szV; split <;> omega) (by unfold szV; split <;> omega)
  rw [Bool.eq_iff_iff, fits_iff]
  unfold hiV loV
  simp only [Bool.and_eq_true, beq_iff_eq, decide_eq_true_eq]
  rw [hilo _ _ h0 (by omega), e]
  rw [e] at h0
  omega
/-- what comes out of all, one after the other -/
def foldV (op : Int → Int → Int) : List Int → Int → Option Int
  | [], out => some out
  | n :: l, out => if fits (op out n) then foldV op l (op out n) else none
/-- what is told of it: the number, the code -/
def oN (o : Option Int) : Int := o.getD 0
def oE (o : Option Int) : Int := if o = none then 9 else 0
theorem oN_some (n : Int) : oN (some n) = n := rfl
theorem oE_some (n : Int) : oE (some n) = 0 := rfl
theorem foldV_cons (op : Int → Int → Int) (n : Int) (l : List Int) (out : Int) (h : fits (op out n) = true) : foldV op (n :: l) out = foldV op l (op out n) := by
  rw [foldV, if_pos h]
theorem foldV_none (op : Int → Int → Int) (n : Int) (l : List Int) (out : Int) (h : fits (op out n) = false) : foldV op (n :: l) out = none := by
  rw [foldV, if_neg (by simp [h])]
theorem drop_cons (zs : List Int) (k : Nat) (h : k < zs.length) : zs.drop k = zs[k]?.getD 0 :: zs.drop (k + 1) := by
  rw [List.drop_eq_getElem_cons h]; simp [h]
theorem fold_add2_ok (a b : Int) (ha : fits a = true) (h : fits (a + b) = true) : foldV (· + ·) [a, b] 0 = some (a + b) := by
  simp [foldV, ha, h]
theorem fold_add2_none (a b : Int) (ha : fits a = true) (h : fits (a + b) = false) : foldV (· + ·) [a, b] 0 = none := by
  simp [foldV, ha, h]
theorem fold_mul2_ok (a b : Int) (ha : fits a = true) (h : fits (a * b) = true) : foldV (· * ·) [a, b] 1 = some (a * b) := by
  simp [foldV, ha, h]
theorem fold_mul2_none (a b : Int) (ha : fits a = true) (h : fits (a * b) = false) : foldV (· * ·) [a, b] 1 = none := by
  simp [foldV, ha, h]
theorem fits_two (a b : Int) (ha : fits a = true) (hb : fits b = true) : ∀ j, j < [a, b].length → fits ([a, b][j]?.getD 0) = true := by
  intro j hj
  match j, hj with
  | 0, _ => exact ha
  | 1, _ => exact hb
theorem cells_two64 (w : World) (x y : Int) (T : TypeId) : ∀ j, j < [x, y].length → (w.alloc (.cells #[.int .i64 x, .int .i64 y] T)).cell? ⟨w.heap.size, 0 + j, none⟩ = some (.int .i64 ([x, y][j]?.getD 0)) := by
  intro j hj
  rw [World.cell?_alloc_mark]
  match j, hj with
  | 0, _ => rfl
  | 1, _ => rfl
end Go.Proofs.Ytghimladdioajaa
