/- Plain laws on windows: the first one that closes behind a time, the last one that opens at or ahead of it. No program in sight. -/
import Derived.WalkKit
namespace Go.Proofs.Ythfffgdelllcdaa
open Go Go.RowKit
/-- a shape that may be -/
def Sh (W S B : Int) : Prop := 1 ≤ W ∧ W ≤ 1099511627776 ∧ 1 ≤ S ∧ S ≤ 1099511627776 ∧ -1099511627776 ≤ B ∧ B ≤ 1099511627776
def heldV (t : Int) : Int := if t < -2305843009213693952 then -2305843009213693952 else if t > 2305843009213693952 then 2305843009213693952 else t
def firstV (W S B t : Int) : Int := if (heldV t - B - W) / S + 1 < 0 then 0 else (heldV t - B - W) / S + 1
def lastV (S B t : Int) : Int := if (heldV t - B) / S < -1 then -1 else (heldV t - B) / S
def manyV (W S B t : Int) : Int := if lastV S B t - firstV W S B t + 1 < 0 then 0 else lastV S B t - firstV W S B t + 1
theorem held_bd (t : Int) : -2305843009213693952 ≤ heldV t ∧ heldV t ≤ 2305843009213693952 := by
  unfold heldV; split
  · omega
  · split <;> omega
theorem held_id (t : Int) (h : -2305843009213693952 ≤ t) (h' : t ≤ 2305843009213693952) : heldV t = t := by
  unfold heldV; rw [if_neg (by omega), if_neg (by omega)]
theorem held_held (t : Int) : heldV (heldV t) = heldV t := held_id _ (held_bd t).1 (held_bd t).2
/-- a quotient downwards by what is at least 1 is no greater than what is divided -/
theorem div_bd (a s m : Int) (hs : 1 ≤ s) (hm : 0 ≤ m) (h1 : -m ≤ a) (h2 : a ≤ m) : -m ≤ a / s ∧ a / s ≤ m := by
  constructor
  · rw [Int.le_ediv_iff_mul_le (by omega)]
    have : m * s ≥ m * 1 := Int.mul_le_mul_of_nonneg_left hs hm
    rw [Int.neg_mul]; omega
  · have : a / s < m + 1 := by
      rw [Int.ediv_lt_iff_lt_mul (by omega)]
      have : (m + 1) * s ≥ (m + 1) * 1 := Int.mul_le_mul_of_nonneg_left hs (by omega)
      omega
    omega
theorem div_lo (a s : Int) (hs : 1 ≤ s) : a / s * s ≤ a := Int.ediv_mul_le a (by omega)
theorem div_hi (a s : Int) (hs : 1 ≤ s) : a < a / s * s + s := by
  have := Int.lt_ediv_add_one_mul_self a (show 0 < s by omega)
  rw [Int.add_mul, Int.one_mul] at this; omega
theorem fdiv_div (a s : Int) (hs : 1 ≤ s) : a.fdiv s = a / s := Int.fdiv_eq_ediv_of_nonneg a (by omega)
theorem first_bd {W S B : Int} (h : Sh W S B) (t : Int) : 0 ≤ firstV W S B t ∧ firstV W S B t ≤ 2305847407260205056 := by
  obtain ⟨h1, h2, h3, h4, h5, h6⟩ := h
  obtain ⟨a1, a2⟩ := held_bd t
  obtain ⟨b1, b2⟩ := div_bd (heldV t - B - W) S 2305847407260205055 h3 (by omega) (by omega) (by omega)
  unfold firstV; split <;> omega
theorem last_bd {S B : Int} (h3 : 1 ≤ S) (h5 : -1099511627776 ≤ B) (h6 : B ≤ 1099511627776) (t : Int) : -1 ≤ lastV S B t ∧ lastV S B t ≤ 2305847407260205055 := by
  obtain ⟨a1, a2⟩ := held_bd t
  obtain ⟨b1, b2⟩ := div_bd (heldV t - B) S 2305847407260205055 h3 (by omega) (by omega) (by omega)
  unfold lastV; split <;> omega
/-- the opening of the first one, from the beginning on -/
theorem first_mul {W S B : Int} (h : Sh W S B) (t : Int) : 0 ≤ firstV W S B t * S ∧ firstV W S B t * S ≤ 2305849606283460608 := by
  obtain ⟨h1, h2, h3, h4, h5, h6⟩ := h
  obtain ⟨a1, a2⟩ := held_bd t
  have d := div_lo (heldV t - B - W) S h3
  unfold firstV; split
  · simp
  · rename_i hn
    refine ⟨Int.mul_nonneg (by omega) (by omega), ?_⟩
    rw [Int.add_mul, Int.one_mul]; omega
/-- it closes behind the time -/
theorem first_closes {W S B : Int} (h : Sh W S B) (t : Int) : heldV t < B + firstV W S B t * S + W := by
  obtain ⟨h1, h2, h3, h4, h5, h6⟩ := h
  have d := div_hi (heldV t - B - W) S h3
  unfold firstV; split
  · rename_i hn
    have : (heldV t - B - W) / S * S ≤ -2 * S := Int.mul_le_mul_of_nonneg_right (by omega) (by omega)
    omega
  · rw [Int.add_mul, Int.one_mul]; omega
/-- the one ahead of it does not -/
theorem first_least {W S B : Int} (h : Sh W S B) (t : Int) (hp : 0 < firstV W S B t) : B + firstV W S B t * S - S + W ≤ heldV t := by
  obtain ⟨h1, h2, h3, h4, h5, h6⟩ := h
  have d := div_lo (heldV t - B - W) S h3
  unfold firstV at hp ⊢
  split at hp
  · omega
  · rename_i hn
    rw [if_neg hn, Int.add_mul, Int.one_mul]; omega
theorem first_held (W S B t : Int) : firstV W S B (heldV t) = firstV W S B t := by unfold firstV; rw [held_held]
theorem div_less (a s : Int) (hs : 1 ≤ s) : (a - s) / s = a / s - 1 := by
  have := Int.add_mul_ediv_right a (-1) (show s ≠ 0 by omega)
  rw [show a + -1 * s = a - s from by omega] at this
  omega
theorem tumble_in {W B : Int} (h : Sh W W B) (t : Int) (h1 : -1152921504606846976 ≤ t) (h2 : t ≤ 1152921504606846976) (hb : B ≤ t) :
    firstV W W B t = (t - B) / W ∧ manyV W W B t = 1 := by
  obtain ⟨w1, w2, w3, w4, w5, w6⟩ := h
  have hq : 0 ≤ (t - B) / W := Int.ediv_nonneg (by omega) (by omega)
  have ef : firstV W W B t = (t - B) / W := by
    unfold firstV
    rw [held_id t (by omega) (by omega), div_less _ _ w1]
    rw [if_neg (by omega)]; omega
  have el : lastV W B t = (t - B) / W := by
    unfold lastV
    rw [held_id t (by omega) (by omega), if_neg (by omega)]
  refine ⟨ef, ?_⟩
  unfold manyV; rw [ef, el, if_neg (by omega)]; omega
theorem tumble_out {W B : Int} (h : Sh W W B) (t : Int) (h1 : -1152921504606846976 ≤ t) (h2 : t ≤ 1152921504606846976) (hb : t < B) :
    firstV W W B t = 0 ∧ manyV W W B t = 0 := by
  obtain ⟨w1, w2, w3, w4, w5, w6⟩ := h
  have hq : (t - B) / W < 0 := Int.ediv_neg_of_neg_of_pos (by omega) (by omega)
  have ef : firstV W W B t = 0 := by
    unfold firstV
    rw [held_id t (by omega) (by omega), div_less _ _ w1]
    split <;> omega
  have el : lastV W B t ≤ -1 := by
    unfold lastV
    rw [held_id t (by omega) (by omega)]
    split <;> omega
  refine ⟨ef, ?_⟩
  unfold manyV; rw [ef]; split <;> omega
theorem held_mono (a b : Int) (h : a ≤ b) : heldV a ≤ heldV b := by unfold heldV; split <;> (try split) <;> (try split) <;> (try split) <;> omega
theorem first_mono {W S B : Int} (h : Sh W S B) (a b : Int) (hab : heldV a ≤ heldV b) : firstV W S B a ≤ firstV W S B b := by
  obtain ⟨h1, h2, h3, h4, h5, h6⟩ := h
  have : (heldV a - B - W) / S ≤ (heldV b - B - W) / S := Int.ediv_le_ediv (by omega) (by omega)
  unfold firstV; split <;> (try split) <;> omega
theorem needed_mono {W S B : Int} (h : Sh W S B) (a b : Int) (hab : heldV a ≤ heldV b) : B + firstV W S B a * S ≤ B + firstV W S B b * S := by
  have h1 := first_mono h a b hab
  have := Int.mul_le_mul_of_nonneg_right h1 (show 0 ≤ S by have := h.2.2.1; omega)
  omega
/-- a window whose closing is behind the time opens at or behind what is needed -/
theorem needed_ok {W S B : Int} (h : Sh W S B) (a n : Int) (hn : heldV a < n * S + B + W) (hn0 : 0 ≤ n) : B + firstV W S B a * S ≤ n * S + B := by
  have h3 := h.2.2.1
  have key : firstV W S B a ≤ n := by
    unfold firstV; split
    · exact hn0
    · have h4 : (heldV a - B - W) / S < n := by
        rw [Int.ediv_lt_iff_lt_mul (by omega)]; omega
      omega
  have := Int.mul_le_mul_of_nonneg_right key (show 0 ≤ S by omega)
  omega
theorem shp1 (a : Int) : 1 ≤ wrap64 (1 + wrap64 ((IntKind.u64.wrap a).tmod 1099511627776)) ∧ wrap64 (1 + wrap64 ((IntKind.u64.wrap a).tmod 1099511627776)) ≤ 1099511627776 := by
  rw [IntKind.wrap_u64, Int.tmod_eq_emod_of_nonneg (by omega)]
  rw [IntWalk.wrap64_in (a % 18446744073709551616 % 1099511627776) ⟨by omega, by omega⟩, IntWalk.wrap64_in _ ⟨by omega, by omega⟩]
  omega
theorem shp2 (a : Int) : -1099511627776 ≤ wrap64 (wrap64 ((IntKind.u64.wrap a).tmod 2199023255553) - 1099511627776) ∧ wrap64 (wrap64 ((IntKind.u64.wrap a).tmod 2199023255553) - 1099511627776) ≤ 1099511627776 := by
  rw [IntKind.wrap_u64, Int.tmod_eq_emod_of_nonneg (by omega)]
  rw [IntWalk.wrap64_in (a % 18446744073709551616 % 2199023255553) ⟨by omega, by omega⟩, IntWalk.wrap64_in _ ⟨by omega, by omega⟩]
  omega
end Go.Proofs.Ythfffgdelllcdaa
