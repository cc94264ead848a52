/- Plain laws on the windows that a time is in: how many they are; where they lie. -/
import Derived.Test.YthfffgdelllcdaaWinPlain
namespace Go.Proofs.Ythfffgdelllcdaa
open Go Go.RowKit
theorem many_want {W S B : Int} (h : Sh W S B) (t : Int) (h1 : -1152921504606846976 ≤ t) (h2 : t ≤ 1152921504606846976) :
    manyV W S B t = if B + firstV W S B t * S ≤ t then (t - (B + firstV W S B t * S)) / S + 1 else 0 := by
  have f1 := (first_bd h t).1
  obtain ⟨w1, w2, w3, w4, w5, w6⟩ := h
  obtain ⟨F, hF⟩ : ∃ F, F = firstV W S B t := ⟨_, rfl⟩
  rw [← hF] at f1
  unfold manyV lastV
  rw [← hF, held_id t (by omega) (by omega)]
  have key : F * S ≤ t - B ↔ F ≤ (t - B) / S := (Int.le_ediv_iff_mul_le (by omega)).symm
  by_cases hc : B + F * S ≤ t
  · have hq : F ≤ (t - B) / S := key.1 (by omega)
    rw [if_pos hc, if_neg (by omega), if_neg (by omega)]
    have e : (t - (B + F * S)) / S = (t - B) / S - F := by
      have := Int.add_mul_ediv_right (t - B) (-F) (show S ≠ 0 by omega)
      rw [show t - B + -F * S = t - (B + F * S) from by rw [Int.neg_mul]; omega] at this
      omega
    rw [e]
  · have hq : ¬F ≤ (t - B) / S := fun hh => hc (by have := key.2 hh; omega)
    rw [if_neg hc]
    split <;> split <;> omega
/-- each of them opens at or ahead of the time -/
theorem at_open {W S B : Int} (h : Sh W S B) (t : Int) (h1 : -1152921504606846976 ≤ t) (h2 : t ≤ 1152921504606846976) (k : Int) (_hk0 : 0 ≤ k) (hk : k < manyV W S B t) :
    (firstV W S B t + k) * S + B ≤ t := by
  have h3 := h.2.2.1
  have hl : firstV W S B t + k ≤ lastV S B t := by unfold manyV at hk; split at hk <;> omega
  have hf := (first_bd h t).1
  have hl2 : lastV S B t = (t - B) / S := by
    unfold lastV at hl ⊢
    rw [held_id t (by omega) (by omega)] at hl ⊢
    split <;> rename_i hh
    · rw [if_pos hh] at hl; omega
    · rfl
  rw [hl2, Int.le_ediv_iff_mul_le (by omega)] at hl
  omega
theorem at_close {W S B : Int} (h : Sh W S B) (t : Int) (h1 : -1152921504606846976 ≤ t) (h2 : t ≤ 1152921504606846976) (k : Int) (hk0 : 0 ≤ k) :
    t < (firstV W S B t + k) * S + B + W ∧ B + firstV W S B t * S ≤ (firstV W S B t + k) * S + B := by
  have hc := first_closes h t
  rw [held_id t (by omega) (by omega)] at hc
  have hk : 0 ≤ k * S := Int.mul_nonneg hk0 (by have := h.2.2.1; omega)
  rw [Int.add_mul]; omega
end Go.Proofs.Ythfffgdelllcdaa
