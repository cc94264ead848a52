/- The plain law of a product by digits: rows of integers that need not be digits, their value, and how a step changes it. No program in sight. -/
import Derived.Test.YtfpelhacbmggeaaBigPlain
namespace Go.Proofs.Ytfpelhacbmggeaa
def at0 (l : List Int) (j : Nat) : Int := l[j]?.getD 0
theorem val_set : ∀ (l : List Int) (j : Nat) (x : Int), j < l.length → val (l.set j x) = val l + ten j * (x - at0 l j)
  | d :: l, 0, x, _ => by simp [val, ten, at0]; omega
  | d :: l, j + 1, x, h => by
    have := val_set l j x (by simpa using h)
    simp only [List.set_cons_succ, val, this, ten_succ, at0, List.getElem?_cons_succ, Int.mul_add, Int.mul_assoc]
    omega
theorem at_set (l : List Int) (j m : Nat) (x : Int) (h : j < l.length) : at0 (l.set j x) m = if m = j then x else at0 l m := by
  unfold at0
  rw [List.getElem?_set]
  by_cases e : m = j
  · subst e; simp [h]
  · rw [if_neg (fun h => e h.symm), if_neg e]
theorem val_zeros (n : Nat) : val (List.replicate n 0) = 0 := by
  induction n with
  | zero => rfl
  | succ n ih => rw [List.replicate_succ]; simp [val, ih]
theorem at_zeros (n j : Nat) : at0 (List.replicate n 0) j = 0 := by
  unfold at0
  rw [List.getElem?_replicate]
  split <;> rfl
theorem val_take_succ (l : List Int) (k : Nat) (h : k < l.length) : val (l.take (k + 1)) = val (l.take k) + ten k * at0 l k := by
  rw [List.take_add_one]
  have e : l[k]?.toList = [at0 l k] := by simp [at0, h]
  rw [e, val_snoc, List.length_take, Nat.min_eq_left (Nat.le_of_lt h)]
theorem at_good {l : List Int} (h : Good l) (k : Nat) : 0 ≤ at0 l k ∧ at0 l k ≤ 9 := get_good h k
/-- one inner step -/
theorem mul_step (os xs ys : List Int) (i k : Nat) (hi : i < xs.length) (hk : k < ys.length) (ho : xs.length + ys.length < os.length)
    (h : val os = val (xs.take i) * val ys + ten i * (at0 xs i * val (ys.take k))) :
    val (os.set (i + k) (at0 os (i + k) + at0 xs i * at0 ys k)) = val (xs.take i) * val ys + ten i * (at0 xs i * val (ys.take (k + 1))) := by
  rw [val_set os (i + k) _ (by omega), h, val_take_succ ys k hk, ten_add, Int.mul_add (at0 xs i), Int.mul_add (ten i)]
  have e : at0 os (i + k) + at0 xs i * at0 ys k - at0 os (i + k) = at0 xs i * at0 ys k := by omega
  rw [e, Int.mul_left_comm (at0 xs i) (ten k), Int.mul_assoc (ten i) (ten k)]
  omega
/-- a round's end -/
theorem mul_row (os xs ys : List Int) (i : Nat) (hi : i < xs.length) (h : val os = val (xs.take i) * val ys + ten i * (at0 xs i * val (ys.take ys.length))) : val os = val (xs.take (i + 1)) * val ys := by
  rw [h, val_take_succ xs i hi, List.take_length, Int.add_mul, Int.mul_assoc]
theorem digit_mul {xs ys : List Int} (hx : Good xs) (hy : Good ys) (i k : Nat) : 0 ≤ at0 xs i * at0 ys k ∧ at0 xs i * at0 ys k ≤ 81 := by
  obtain ⟨a, b⟩ := at_good hx i
  obtain ⟨c, d⟩ := at_good hy k
  have h1 := Int.mul_nonneg a c
  have h2 := Int.mul_le_mul b d c (by omega)
  omega
/-- all within -/
def Within (B : Int) (l : List Int) : Prop := ∀ j, 0 ≤ at0 l j ∧ at0 l j ≤ B
theorem within_set {B B' d : Int} {l : List Int} (h : Within B l) (j : Nat) (hj : j < l.length) (h0 : 0 ≤ d) (hd : d ≤ B' - B) : Within B' (l.set j (at0 l j + d)) := fun m => by
  rw [at_set l j m _ hj]
  have h1 := h m
  have h2 := h j
  split <;> omega
/-- one carry -/
theorem carry_val (os : List Int) (i : Nat) (hi : i + 1 < os.length) :
    val ((os.set (i + 1) (at0 os (i + 1) + at0 os i / 10)).set i (at0 os i % 10)) = val os := by
  rw [val_set _ i _ (by simp; omega), val_set os (i + 1) _ hi, at_set os (i + 1) i _ hi, if_neg (by omega), ten_succ]
  have e : at0 os i = 10 * (at0 os i / 10) + at0 os i % 10 := by omega
  have e2 : at0 os (i + 1) + at0 os i / 10 - at0 os (i + 1) = at0 os i / 10 := by omega
  rw [e2]
  have e3 : at0 os i % 10 - at0 os i = -(10 * (at0 os i / 10)) := by omega
  rw [e3, Int.mul_neg, Int.mul_comm 10 (ten i), Int.mul_assoc]
  omega
/-- done below i, within B from there on, twice B at i -/
def Carried (B : Int) (i : Nat) (l : List Int) : Prop := ∀ j, 0 ≤ at0 l j ∧ (j < i → at0 l j ≤ 9) ∧ (j = i → at0 l j ≤ 2 * B) ∧ (i < j → at0 l j ≤ B)
theorem carried_start {B : Int} {l : List Int} (h : Within B l) : Carried B 0 l := fun j => by
  have := h j
  exact ⟨this.1, fun h => by omega, fun _ => by omega, fun _ => this.2⟩
theorem carry_step {B : Int} {os : List Int} {i : Nat} (hi : i + 1 < os.length) (h : Carried B i os) :
    Carried B (i + 1) ((os.set (i + 1) (at0 os (i + 1) + at0 os i / 10)).set i (at0 os i % 10)) := fun j => by
  rw [at_set _ i j _ (by simp; omega), at_set os (i + 1) j _ hi]
  have h1 := h i
  have h2 := h (i + 1)
  have h3 := h j
  have a1 := h1.2.2.1 rfl
  have a2 := h2.2.2.2 (by omega)
  by_cases e : j = i
  · rw [if_pos e]; refine ⟨by omega, fun _ => by omega, fun h => by omega, fun h => by omega⟩
  · rw [if_neg e]
    by_cases e2 : j = i + 1
    · rw [if_pos e2]; exact ⟨by omega, fun h => by omega, fun _ => by omega, fun h => by omega⟩
    · rw [if_neg e2]; exact ⟨h3.1, fun h => h3.2.1 (by omega), fun h => absurd h e2, fun h => h3.2.2.2 (by omega)⟩
theorem val_last {os : List Int} {n : Nat} (hl : os.length = n + 1) (h0 : ∀ j, 0 ≤ at0 os j) : ten n * at0 os n ≤ val os := by
  have hn : ∀ l : List Int, (∀ j, 0 ≤ at0 l j) → 0 ≤ val l := by
    intro l
    induction l with
    | nil => intro _; exact Int.le_refl _
    | cons d l ih =>
      intro h
      have a := h 0
      have b := ih (fun j => h (j + 1))
      simp [at0] at a
      simp only [val]; omega
  have hv : val os = val (os.take n) + ten n * at0 os n := by
    rw [← val_take_succ os n (by omega), List.take_of_length_le (by omega)]
  have := hn (os.take n) (fun j => by
    unfold at0
    rw [List.getElem?_take]
    split
    · exact h0 j
    · exact Int.le_refl _)
  omega
/-- at the end all are digits -/
theorem carried_good {B : Int} {os : List Int} {n : Nat} (hl : os.length = n + 1) (h : Carried B n os) (hv : val os < ten n) : Good os := by
  have h1 := val_last hl (fun j => (h j).1)
  have h2 : at0 os n = 0 := by
    have h3 := (h n).1
    by_cases h4 : 1 ≤ at0 os n
    · have := Int.mul_le_mul_of_nonneg_left h4 (show 0 ≤ ten n by have := ten_pos n; omega)
      omega
    · omega
  intro d hd
  obtain ⟨j, hj, rfl⟩ := List.mem_iff_getElem.mp hd
  have e : os[j] = at0 os j := by simp [at0, hj]
  rw [e]
  have h5 := h j
  by_cases e2 : j = n
  · subst e2; omega
  · exact ⟨h5.1, h5.2.1 (by omega)⟩
end Go.Proofs.Ytfpelhacbmggeaa
