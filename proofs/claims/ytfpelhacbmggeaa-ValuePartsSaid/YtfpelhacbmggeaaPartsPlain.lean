/- Plain laws: a fold of many is that of what comes out of the first ones, and the others. -/
import Derived.Test.YtfpelhacbmggeaaSumPlain
namespace Go.Proofs.Ytfpelhacbmggeaa
open Go Go.RowKit
theorem foldV_append (op : Int → Int → Int) (l m : List Int) (s : Int) : foldV op (l ++ m) s = (foldV op l s).bind (foldV op m) := by
  induction l generalizing s with
  | nil => rfl
  | cons n l ih =>
    simp only [List.cons_append, foldV]
    split
    · exact ih _
    · rfl
theorem foldV_fits (op : Int → Int → Int) (l : List Int) (s r : Int) (hs : fits s = true) (h : foldV op l s = some r) : fits r = true := by
  induction l generalizing s with
  | nil => simp [foldV] at h; subst h; exact hs
  | cons n l ih =>
    rw [foldV] at h
    split at h
    · exact ih _ (by assumption) h
    · cases h
theorem foldV_parts (op : Int → Int → Int) (zs : List Int) (k : Nat) (s : Int) : foldV op zs s = (foldV op (zs.take k) s).bind (foldV op (zs.drop k)) := by
  rw [← foldV_append, List.take_append_drop]
theorem fold_add_first (a : Int) (l : List Int) (ha : fits a = true) : foldV (· + ·) (a :: l) 0 = foldV (· + ·) l a := by
  rw [foldV_cons _ _ _ _ (by simpa using ha)]; simp
theorem fold_mul_first (a : Int) (l : List Int) (ha : fits a = true) : foldV (· * ·) (a :: l) 1 = foldV (· * ·) l a := by
  rw [foldV_cons _ _ _ _ (by simpa using ha)]; simp
theorem fits_take (zs : List Int) (k : Nat) (hk : k ≤ zs.length) (hz : ∀ j, j < zs.length → fits (zs[j]?.getD 0) = true) : ∀ j, j < (zs.take k).length → fits ((zs.take k)[j]?.getD 0) = true := by
  intro j hj
  have : j < k := by simp at hj; omega
  rw [List.getElem?_take_of_lt this]
  exact hz j (by omega)
theorem fits_first (zs : List Int) (k : Nat) (a : Int) (ha : fits a = true) (hz : ∀ j, j < zs.length → fits (zs[j]?.getD 0) = true) : ∀ j, j < (a :: zs.drop k).length → fits ((a :: zs.drop k)[j]?.getD 0) = true := by
  intro j hj
  cases j with
  | zero => exact ha
  | succ j =>
    simp only [List.getElem?_cons_succ, List.getElem?_drop]
    simp at hj
    exact hz _ (by omega)
end Go.Proofs.Ytfpelhacbmggeaa
