/- A quoted text is read back as it was, whatever stands behind: the plain law. -/
import Derived.Test.YtbchkhjkajagfaaDoorScRQuoted
namespace Go.Proofs.YtbchkhjkajagfaaDoor
open Go Go.RowKit
set_option maxRecDepth 100000
set_option linter.unusedVariables false
theorem dcons {L T : List Int} {i : Nat} {x : Int} (h : L.drop i = x :: T) : ∃ hi : i < L.length, L[i]'hi = x ∧ L.drop (i + 1) = T := by
  have hi : i < L.length := by
    rcases Nat.lt_or_ge i L.length with h1 | h1
    · exact h1
    · rw [List.drop_eq_nil_of_le h1] at h; cases h
  rw [List.drop_eq_getElem_cons hi] at h
  injection h with h1 h2
  exact ⟨hi, h1, h2⟩
theorem escOf_letter {n : Int} (h : letterV n ≠ 0) : escOf (letterV n) = some n := by
  have h1 := letter_hit (c := letterV n) (m := n) rfl h
  have h39 : letterV n ≠ 39 := by unfold letterV; (repeat' split) <;> omega
  have e : escOf (letterV n) = esc7 (letterV n) := by unfold escOf esc7; rw [if_neg h39]
  rw [e, h1]
theorem hex_hexI {d : Int} (h0 : 0 ≤ d) (h1 : d < 16) : hexV (hexI d) = d := by
  unfold hexV hexI
  split
  · rw [if_pos (by omega)]; omega
  · rw [if_neg (by omega), if_neg (by omega), if_pos (by omega)]; omega
theorem numV_step {L T : List Int} {k i : Nat} {s x : Int} (h : L.drop i = x :: T) (hx : 0 ≤ hexV x) : numV L (k + 1) i s = numV L k (i + 1) (s * 16 + hexV x) ∧ L.drop (i + 1) = T := by
  obtain ⟨hi, h1, h2⟩ := dcons h
  refine ⟨?_, h2⟩
  conv => lhs; unfold numV
  rw [dif_pos hi, h1, if_neg (by omega)]
theorem qgo_step {L T : List Int} {f i : Nat} {acc : List Int} {n : Int} (hn : SignP n) (h : L.drop i = qs n ++ T) : qgo L (f + 1) i acc = qgo L f (i + (qs n).length) (acc ++ [n]) ∧ L.drop (i + (qs n).length) = T := by
  refine ⟨?_, by rw [← List.drop_drop, h, List.drop_left]⟩
  unfold qs at h ⊢
  by_cases hl : letterV n ≠ 0
  · rw [if_pos hl] at h ⊢
    obtain ⟨hi, h1, h2⟩ := dcons h
    obtain ⟨hj, h3, h4⟩ := dcons h2
    conv => lhs; unfold qgo
    rw [dif_pos hi, h1, if_neg (by decide), if_pos rfl]
    have e : escV L (i + 1) = (some n, i + 2) := by
      unfold escV
      rw [dif_pos hj, h3, escOf_letter hl]
    rw [e]
    rfl
  · rw [if_neg hl] at h ⊢
    by_cases h4 : classV n = 4
    · rw [if_pos h4] at h ⊢
      obtain ⟨b0, b1, _⟩ := class4_bd h4
      obtain ⟨hi, h1, h2⟩ := dcons h
      obtain ⟨hj, h3, h5⟩ := dcons h2
      have x1 : hexV (hexI (n / 16)) = n / 16 := hex_hexI (by omega) (by omega)
      have x2 : hexV (hexI (n % 16)) = n % 16 := hex_hexI (by omega) (by omega)
      obtain ⟨s1, d1⟩ := numV_step (k := 3) (s := 0) h5 (by decide)
      obtain ⟨s2, d2⟩ := numV_step (k := 2) (s := 0 * 16 + hexV 48) d1 (by decide)
      obtain ⟨s3, d3⟩ := numV_step (k := 1) (s := (0 * 16 + hexV 48) * 16 + hexV 48) d2 (by rw [x1]; omega)
      obtain ⟨s4, d4⟩ := numV_step (k := 0) (s := ((0 * 16 + hexV 48) * 16 + hexV 48) * 16 + hexV (hexI (n / 16))) d3 (by rw [x2]; omega)
      conv => lhs; unfold qgo
      rw [dif_pos hi, h1, if_neg (by decide), if_pos rfl]
      have e : escV L (i + 1) = (some n, i + 6) := by
        unfold escV
        rw [dif_pos hj, h3, show escOf 117 = none from rfl]
        simp only
        rw [if_pos trivial, s1, s2, s3, s4]
        unfold numV
        have ev : (((0 * 16 + hexV 48) * 16 + hexV 48) * 16 + hexV (hexI (n / 16))) * 16 + hexV (hexI (n % 16)) = n := by
          rw [x1, x2, show hexV 48 = 0 from by decide]; omega
        rw [ev, if_pos hn]
      rw [e]
      rfl
    · rw [if_neg h4] at h ⊢
      obtain ⟨hi, h1, h2⟩ := dcons h
      have hl0 : letterV n = 0 := by
        by_cases h : letterV n = 0
        · exact h
        · exact absurd h hl
      have n34 : n ≠ 34 := fun e => by subst e; exact absurd hl0 (by decide)
      have n92 : n ≠ 92 := fun e => by subst e; exact absurd hl0 (by decide)
      have n10 : n ≠ 10 := fun e => by subst e; exact absurd hl0 (by decide)
      have n13 : n ≠ 13 := fun e => by subst e; exact absurd hl0 (by decide)
      conv => lhs; unfold qgo
      rw [dif_pos hi, h1, if_neg n34, if_neg n92, if_neg (by omega)]
      rfl
theorem qgo_all (L T : List Int) : ∀ (l : List Int) (f i : Nat) (acc : List Int), (∀ n ∈ l, SignP n) → L.drop i = l.flatMap qs ++ 34 :: T → l.length + 1 ≤ f → qgo L f i acc = (some (acc ++ l), i + (l.flatMap qs).length + 1) := by
  intro l
  induction l with
  | nil =>
    intro f i acc _ h hf
    obtain ⟨f, rfl⟩ : ∃ f', f = f' + 1 := ⟨f - 1, by simp at hf; omega⟩
    obtain ⟨hi, h1, _⟩ := dcons (L := L) (i := i) (x := 34) (T := T) (by simpa using h)
    unfold qgo
    rw [dif_pos hi, h1, if_pos rfl]
    simp
  | cons n l ih =>
    intro f i acc hl h hf
    obtain ⟨f, rfl⟩ : ∃ f', f = f' + 1 := ⟨f - 1, by simp at hf; omega⟩
    rw [List.flatMap_cons, List.append_assoc] at h
    obtain ⟨e1, e2⟩ := qgo_step (f := f) (acc := acc) (hl n List.mem_cons_self) h
    rw [e1, ih f _ _ (fun x hx => hl x (List.mem_cons_of_mem _ hx)) e2 (by simp at hf; omega)]
    rw [List.flatMap_cons, List.length_append]
    simp
    omega
theorem flat_ge (l : List Int) : l.length ≤ (l.flatMap qs).length := by
  induction l with
  | nil => simp
  | cons n l ih =>
    have : 0 < (qs n).length := List.length_pos_iff.2 (qs_ne n)
    rw [List.flatMap_cons, List.length_append, List.length_cons]
    omega
/-- what is quoted is read back -/
theorem quoted_back (l m : List Int) (hl : ∀ n ∈ l, SignP n) : quotedV (qsigns l ++ m) 0 = (some l, (qsigns l).length) := by
  have hL : qsigns l ++ m = 34 :: (l.flatMap qs ++ 34 :: m) := by unfold qsigns qsignsIn; simp
  have hg := flat_ge l
  unfold quotedV
  rw [hL, List.drop_zero, if_pos (show List.take 1 (34 :: (List.flatMap qs l ++ 34 :: m)) = [34] from rfl), qgo_all _ m l _ _ _ hl rfl (by rw [List.length_cons, List.length_append, List.length_cons]; omega)]
  unfold qsigns qsignsIn
  simp
  omega
end Go.Proofs.YtbchkhjkajagfaaDoor
