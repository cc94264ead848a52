/- Plain laws on numbers as digits, the lowest first: their value, their order, sums and differences digit by digit. No program in sight. -/
import Derived.WalkKit
namespace Go.Proofs.Ytghimladdioajaa
open Go Go.RowKit
/-- the value of digits, the lowest first -/
def val : List Int → Int
  | [] => 0
  | d :: l => d + 10 * val l
/-- ten, so often -/
def ten : Nat → Int
  | 0 => 1
  | n + 1 => 10 * ten n
def Good (l : List Int) : Prop := ∀ d ∈ l, 0 ≤ d ∧ d ≤ 9
/-- none of them a nought ahead -/
def Norm (l : List Int) : Prop := l = [] ∨ ∃ m d, l = m ++ [d] ∧ d ≠ 0
theorem ten_succ (n : Nat) : ten (n + 1) = 10 * ten n := rfl
theorem ten_pos (n : Nat) : 1 ≤ ten n := by
  induction n with
  | zero => exact Int.le_refl _
  | succ n ih => rw [ten_succ]; omega
theorem ten_mono {m n : Nat} (h : m ≤ n) : ten m ≤ ten n := by
  induction n with
  | zero => have : m = 0 := by omega
            subst this; exact Int.le_refl _
  | succ n ih =>
    by_cases e : m = n + 1
    · subst e; exact Int.le_refl _
    · have := ih (by omega)
      have := ten_pos n
      rw [ten_succ]; omega
theorem ten_add (m n : Nat) : ten (m + n) = ten m * ten n := by
  induction m with
  | zero => simp [ten]
  | succ m ih => rw [Nat.succ_add, ten_succ, ten_succ, ih, Int.mul_assoc]
theorem val_append (l m : List Int) : val (l ++ m) = val l + ten l.length * val m := by
  induction l with
  | nil => simp [val, ten]
  | cons d l ih =>
    simp only [List.cons_append, val, List.length_cons, ten_succ]
    rw [ih, Int.mul_add, Int.mul_assoc]; omega
theorem val_snoc (l : List Int) (d : Int) : val (l ++ [d]) = val l + ten l.length * d := by
  rw [val_append]; simp [val]
theorem good_nil : Good [] := fun _ h => by cases h
theorem good_snoc {l : List Int} {d : Int} (h : Good l) (h0 : 0 ≤ d) (h9 : d ≤ 9) : Good (l ++ [d]) := by
  intro x hx
  rcases List.mem_append.1 hx with hx | hx
  · exact h x hx
  · simp at hx; subst hx; exact ⟨h0, h9⟩
theorem good_sub {l m : List Int} (h : Good l) (hs : ∀ x ∈ m, x ∈ l) : Good m := fun x hx => h x (hs x hx)
theorem good_drop {l : List Int} (h : Good l) (k : Nat) : Good (l.drop k) := good_sub h fun _ hx => List.mem_of_mem_drop hx
theorem val_nonneg {l : List Int} (h : Good l) : 0 ≤ val l := by
  induction l with
  | nil => exact Int.le_refl _
  | cons d l ih =>
    have h1 := h d (by simp)
    have h2 := ih (good_sub h fun x hx => by simp [hx])
    unfold val; omega
theorem val_lt {l : List Int} (h : Good l) : val l < ten l.length := by
  induction l with
  | nil => simp [val, ten]
  | cons d l ih =>
    have h1 := h d (by simp)
    have h2 := ih (good_sub h fun x hx => by simp [hx])
    simp only [val, List.length_cons, ten_succ]; omega
/-- without a nought ahead a number of n digits is at least 10 to the n - 1 -/
theorem val_ge {l : List Int} (h : Good l) (hn : Norm l) (hl : l ≠ []) : ten (l.length - 1) ≤ val l := by
  rcases hn with hn | ⟨m, d, rfl, hd⟩
  · exact absurd hn hl
  · have h1 := h d (by simp)
    have h2 := val_nonneg (good_sub h fun x (hx : x ∈ m) => by simp [hx])
    rw [val_snoc]
    simp only [List.length_append, List.length_cons, List.length_nil, Nat.zero_add, Nat.add_sub_cancel]
    have := Int.mul_le_mul_of_nonneg_left (show 1 ≤ d by omega) (show 0 ≤ ten m.length by have := ten_pos m.length; omega)
    omega
theorem len_le {l : List Int} {n : Nat} (h : Good l) (hn : Norm l) (hv : val l < ten n) : l.length ≤ n := by
  by_cases hl : l = []
  · subst hl; simp
  · have h1 := val_ge h hn hl
    rcases Nat.lt_or_ge n l.length with hc | hc
    · have := ten_mono (show n ≤ l.length - 1 by omega)
      omega
    · exact hc
theorem val_nil {l : List Int} (h : Good l) (hn : Norm l) (hv : val l = 0) : l = [] := by
  by_cases hl : l = []
  · exact hl
  · have h1 := val_ge h hn hl
    have := ten_pos (l.length - 1)
    omega
theorem len_lt {a b : List Int} (ha : Good a) (hb : Good b) (nb : Norm b) (h : a.length < b.length) : val a < val b := by
  have h1 := val_lt ha
  have h2 := val_ge hb nb (by intro e; subst e; simp at h)
  have := ten_mono (show a.length ≤ b.length - 1 by omega)
  omega
theorem val_drop (l : List Int) (k : Nat) (h : k < l.length) : val (l.drop k) = l[k]?.getD 0 + 10 * val (l.drop (k + 1)) := by
  rw [List.drop_eq_getElem_cons h]; simp [val, h]
theorem val_take_drop (l : List Int) (k : Nat) (h : k ≤ l.length) : val l = val (l.take k) + ten k * val (l.drop k) := by
  have := val_append (l.take k) (l.drop k)
  rw [List.take_append_drop, List.length_take, Nat.min_eq_left h] at this
  exact this
/-- the highest unlike digit tells the order -/
theorem val_first {a b : List Int} (ha : Good a) (hb : Good b) (hl : a.length = b.length) (i : Nat) (hi : i < a.length) (he : a.drop (i + 1) = b.drop (i + 1)) (hlt : a[i]?.getD 0 < b[i]?.getD 0) : val a < val b := by
  rw [val_take_drop a i (by omega), val_take_drop b i (by omega), val_drop a i hi, val_drop b i (by omega), he]
  have h1 := val_lt (good_sub ha fun x (hx : x ∈ a.take i) => List.mem_of_mem_take hx)
  have h2 := val_nonneg (good_sub hb fun x (hx : x ∈ b.take i) => List.mem_of_mem_take hx)
  rw [List.length_take, Nat.min_eq_left (by omega)] at h1
  have h3 : ten i * (a[i]?.getD 0 + 10 * val (b.drop (i + 1)) + 1) ≤ ten i * (b[i]?.getD 0 + 10 * val (b.drop (i + 1))) :=
    Int.mul_le_mul_of_nonneg_left (by omega) (by have := ten_pos i; omega)
  rw [Int.mul_add, Int.mul_one] at h3
  omega
theorem get_good {l : List Int} (h : Good l) (k : Nat) : 0 ≤ l[k]?.getD 0 ∧ l[k]?.getD 0 ≤ 9 := by
  rcases Nat.lt_or_ge k l.length with hk | hk
  · rw [List.getElem?_eq_getElem hk]; exact h _ (List.getElem_mem hk)
  · rw [List.getElem?_eq_none hk]; simp
theorem drop_same (a b : List Int) (i : Nat) (h : i < a.length) (h' : i < b.length) (he : a.drop (i + 1) = b.drop (i + 1)) (hx : a[i]?.getD 0 = b[i]?.getD 0) : a.drop i = b.drop i := by
  rw [List.drop_eq_getElem_cons h, List.drop_eq_getElem_cons h', he]
  simp [h, h'] at hx
  rw [hx]
/-- what is got, with the carry, one digit farther: the sum -/
theorem plus_step (o : List Int) (k : Nat) (c x y A B d c' : Int) (ho : o.length = k) (h : d + 10 * c' = c + x + y) :
    val (o ++ [d]) + ten (k + 1) * (c' + A + B) = val o + ten k * (c + (x + 10 * A) + (y + 10 * B)) := by
  rw [val_snoc, ho]
  have e1 : ten (k + 1) * (c' + A + B) = ten k * (10 * (c' + A + B)) := by rw [ten_succ, Int.mul_comm 10, Int.mul_assoc]
  rw [e1, Int.add_assoc, ← Int.mul_add]
  congr 2; omega
theorem minus_step (o : List Int) (k : Nat) (c x y A B d c' : Int) (ho : o.length = k) (h : d - 10 * c' = x - c - y) :
    val (o ++ [d]) + ten (k + 1) * (A - c' - B) = val o + ten k * (x + 10 * A - c - (y + 10 * B)) := by
  rw [val_snoc, ho]
  have e1 : ten (k + 1) * (A - c' - B) = ten k * (10 * (A - c' - B)) := by rw [ten_succ, Int.mul_comm 10, Int.mul_assoc]
  rw [e1, Int.add_assoc, ← Int.mul_add]
  congr 2; omega
/-- a difference that is none below 0 has no carry left -/
theorem minus_end (o : List Int) (k : Nat) (c B D : Int) (ho : o.length = k) (hg : Good o) (hc : 0 ≤ c) (hB : 0 ≤ B) (h : val o + ten k * (0 - c - B) = D) (hD : 0 ≤ D) : val o = D := by
  have h1 := val_lt hg
  rw [ho] at h1
  by_cases h0 : c + B = 0
  · have : (0 - c - B) = 0 := by omega
    rw [this, Int.mul_zero] at h; omega
  · have h2 : ten k * 1 ≤ ten k * (c + B) := Int.mul_le_mul_of_nonneg_left (by omega) (by have := ten_pos k; omega)
    have h3 : ten k * (0 - c - B) = -(ten k * (c + B)) := by rw [← Int.mul_neg]; congr 1; omega
    omega
end Go.Proofs.Ytghimladdioajaa
