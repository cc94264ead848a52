/- Plain laws on how many windows close in a while. No program in sight. -/
import Derived.Test.YthfffgdelllcdaaWinPlain
namespace Go.Proofs.Ythfffgdelllcdaa
open Go Go.RowKit
/-- how many windows close behind f and not behind t -/
def cntV (W S B f t : Int) : Nat := (firstV W S B t - firstV W S B f).toNat
theorem cnt_in {W S B : Int} (h : Sh W S B) (f t : Int) (k : Int) (_hk0 : 0 ≤ k) (hk : k < cntV W S B f t) : (firstV W S B f + k) * S + B + W ≤ heldV t := by
  have f0 := (first_bd h f).1
  have hp : 0 < firstV W S B t := by unfold cntV at hk; omega
  have hl := first_least h t hp
  have hq : (firstV W S B f + k) * S ≤ (firstV W S B t - 1) * S := Int.mul_le_mul_of_nonneg_right (by unfold cntV at hk; omega) (by have := h.2.2.1; omega)
  rw [Int.sub_mul, Int.one_mul] at hq
  omega
theorem cnt_end {W S B : Int} (h : Sh W S B) (f t : Int) : heldV t < (firstV W S B f + cntV W S B f t) * S + B + W := by
  have hc := first_closes h t
  have hq : firstV W S B t * S ≤ (firstV W S B f + cntV W S B f t) * S := Int.mul_le_mul_of_nonneg_right (by unfold cntV; omega) (by have := h.2.2.1; omega)
  omega
theorem div_step (x d S : Int) (hS : 1 ≤ S) (hd : 0 ≤ d) : (x + d) / S ≤ x / S + d := by
  have e : x / S + d = (x + d * S) / S := (Int.add_mul_ediv_right x d (by omega)).symm
  rw [e]
  refine Int.ediv_le_ediv (by omega) ?_
  have : d * 1 ≤ d * S := Int.mul_le_mul_of_nonneg_left hS hd
  omega
theorem cnt_le {W S B : Int} (h : Sh W S B) (f t : Int) (hft : heldV f ≤ heldV t) : (cntV W S B f t : Int) ≤ heldV t - heldV f := by
  have hd := div_step (heldV f - B - W) (heldV t - heldV f) S h.2.2.1 (by omega)
  rw [show heldV f - B - W + (heldV t - heldV f) = heldV t - B - W from by omega] at hd
  unfold cntV firstV
  split <;> split <;> omega
theorem first_up {W S B : Int} (h : Sh W S B) (f t : Int) (hft : heldV f ≤ heldV t) : firstV W S B f ≤ firstV W S B t := by
  have hd : (heldV f - B - W) / S ≤ (heldV t - B - W) / S := Int.ediv_le_ediv (by have := h.2.2.1; omega) (by omega)
  unfold firstV
  split <;> split <;> omega
theorem cnt_none {W S B : Int} (h : Sh W S B) (f t : Int) (hft : heldV t ≤ heldV f) : cntV W S B f t = 0 := by
  have := first_up h t f hft
  unfold cntV; omega
theorem cnt_first {W S B : Int} (h : Sh W S B) (f t : Int) (hft : heldV f ≤ heldV t) : firstV W S B f + cntV W S B f t = firstV W S B t := by
  have := first_up h f t hft
  unfold cntV; omega
theorem cnt_split {W S B : Int} (h : Sh W S B) (a b c : Int) (hab : heldV a ≤ heldV b) (hbc : heldV b ≤ heldV c) : cntV W S B a c = cntV W S B a b + cntV W S B b c := by
  have := first_up h a b hab
  have := first_up h b c hbc
  unfold cntV; omega
/-- where times are small, so are the openings -/
theorem first_small {W S B : Int} (h : Sh W S B) (t m : Int) (h0 : 0 ≤ m) (ht : heldV t - B - W + S ≤ m) : firstV W S B t * S ≤ m := by
  by_cases hp : 0 < firstV W S B t
  · have := first_least h t hp; omega
  · have e : firstV W S B t = 0 := by have := (first_bd h t).1; omega
    rw [e]; omega
theorem cnt_small {W S B : Int} (h : Sh W S B) (f t m : Int) (k : Int) (hk : k ≤ cntV W S B f t) (h0 : 0 ≤ m) (hf : heldV f - B - W + S ≤ m) (ht : heldV t - B - W + S ≤ m) : (firstV W S B f + k) * S ≤ m := by
  have h1 := first_small h f m h0 hf
  have h2 := first_small h t m h0 ht
  have hS : 0 ≤ S := by have := h.2.2.1; omega
  by_cases hc : firstV W S B t ≤ firstV W S B f
  · have : (firstV W S B f + k) * S ≤ firstV W S B f * S := Int.mul_le_mul_of_nonneg_right (by unfold cntV at hk; omega) hS
    omega
  · have : (firstV W S B f + k) * S ≤ firstV W S B t * S := Int.mul_le_mul_of_nonneg_right (by unfold cntV at hk; omega) hS
    omega
end Go.Proofs.Ythfffgdelllcdaa
