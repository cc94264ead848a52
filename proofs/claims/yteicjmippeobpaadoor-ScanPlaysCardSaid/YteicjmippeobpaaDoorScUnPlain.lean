/- Plain laws on quotations: their signs; unlike texts are quoted unlike. No program in sight. -/
import Derived.Test.YteicjmippeobpaaDoorScPieces
namespace Go.Proofs.YteicjmippeobpaaDoor
open Go Go.RowKit
def hexI (d : Int) : Int := if d < 10 then 48 + d else 55 + d
/-- a sign as it stands in quotation marks, sign by sign -/
def qs (n : Int) : List Int := if letterV n ≠ 0 then [92, letterV n] else if classV n = 4 then [92, 117, 48, 48, hexI (n / 16), hexI (n % 16)] else [n]
def qsignsIn (l : List Int) : List Int := 34 :: l.flatMap qs
def qsigns (l : List Int) : List Int := qsignsIn l ++ [34]
theorem enc_ascii {n : Int} (h0 : 0 ≤ n) (h1 : n ≤ 127) : enc n = [n.toNat.toUInt8] := by
  unfold enc Lib.encodeRune
  rw [Lib.encodeRuneZ_one h0 h1]; rfl
theorem letter_bd (n : Int) : 0 ≤ letterV n ∧ letterV n ≤ 127 := by unfold letterV; (repeat' split) <;> omega
theorem class4_bd {n : Int} (h : classV n = 4) : 0 ≤ n ∧ n < 160 ∧ n ≠ 9 ∧ n ≠ 10 ∧ n ≠ 13 := by
  unfold classV SignP at h
  (repeat' split at h) <;> omega
theorem hexI_bd {d : Int} (h0 : 0 ≤ d) (h1 : d < 16) : 48 ≤ hexI d ∧ hexI d ≤ 70 ∧ (hexI d ≤ 57 ∨ 65 ≤ hexI d) := by unfold hexI; split <;> omega
theorem hexd_eq (d : Int) : hexd d = (hexI d).toNat.toUInt8 := by unfold hexd hexI; split <;> rfl
theorem textB_qs {n : Int} (_hn : SignP n) : textB (qs n) = qsign n := by
  have hl := letter_bd n
  unfold qs qsign
  by_cases h : letterV n ≠ 0
  · rw [if_pos h, if_pos h]
    rw [textB_cons, textB_one, enc_ascii (by omega) (by omega), enc_ascii hl.1 hl.2]; rfl
  · rw [if_neg h, if_neg h]
    by_cases h4 : classV n = 4
    · obtain ⟨c1, c2, _⟩ := class4_bd h4
      have b1 := hexI_bd (d := n / 16) (by omega) (by omega)
      have b2 := hexI_bd (d := n % 16) (by omega) (by omega)
      rw [if_pos h4, if_pos h4, hexd_eq, hexd_eq]
      simp only [textB_cons, textB_nil]
      rw [enc_ascii (n := hexI (n / 16)) (by omega) (by omega), enc_ascii (n := hexI (n % 16)) (by omega) (by omega), enc_ascii (n := 92) (by omega) (by omega), enc_ascii (n := 117) (by omega) (by omega), enc_ascii (n := 48) (by omega) (by omega)]
      rfl
    · rw [if_neg h4, if_neg h4, textB_one]
theorem textB_flat (l : List Int) (hl : ∀ n ∈ l, SignP n) : textB (l.flatMap qs) = l.flatMap qsign := by
  induction l with
  | nil => rfl
  | cons n l ih =>
    rw [List.flatMap_cons, List.flatMap_cons, textB_append, textB_qs (hl n List.mem_cons_self), ih (fun x hx => hl x (List.mem_cons_of_mem _ hx))]
theorem textB_q (l : List Int) (hl : ∀ n ∈ l, SignP n) : textB (qsigns l) = quoteB l := by
  unfold qsigns qsignsIn quoteB quoteIn
  rw [textB_append, textB_cons, textB_flat l hl, textB_one, enc_ascii (n := 34) (by omega) (by omega)]
  rfl
theorem small_sign {n : Int} (h0 : 0 ≤ n) (h1 : n ≤ 127) : SignP n := .inl ⟨h0, by omega⟩
theorem qs_sign {n m : Int} (hn : SignP n) (hm : m ∈ qs n) : SignP m ∧ classV m ≠ 4 ∧ m ≠ 9 ∧ m ≠ 10 ∧ m ≠ 13 := by
  have hl := letter_bd n
  have plain : ∀ x : Int, 33 ≤ x → x ≤ 126 → SignP x ∧ classV x ≠ 4 ∧ x ≠ 9 ∧ x ≠ 10 ∧ x ≠ 13 := by
    intro x h0 h1
    refine ⟨small_sign (by omega) (by omega), ?_, by omega, by omega, by omega⟩
    unfold classV SignP
    (repeat' split) <;> omega
  unfold qs at hm
  by_cases h : letterV n ≠ 0
  · rw [if_pos h] at hm
    have hl2 : 33 ≤ letterV n ∧ letterV n ≤ 126 := by unfold letterV at h ⊢; (repeat' split at h) <;> (repeat' split) <;> omega
    rcases List.mem_cons.1 hm with rfl | hm
    · exact plain _ (by omega) (by omega)
    · obtain rfl := List.mem_singleton.1 hm
      exact plain _ hl2.1 hl2.2
  · rw [if_neg h] at hm
    by_cases h4 : classV n = 4
    · obtain ⟨c1, c2, _⟩ := class4_bd h4
      have b1 := hexI_bd (d := n / 16) (by omega) (by omega)
      have b2 := hexI_bd (d := n % 16) (by omega) (by omega)
      rw [if_pos h4] at hm
      simp only [List.mem_cons, List.not_mem_nil, or_false] at hm
      rcases hm with rfl | rfl | rfl | rfl | rfl | rfl
      all_goals exact plain _ (by omega) (by omega)
    · rw [if_neg h4] at hm
      obtain rfl := List.mem_singleton.1 hm
      have h0 : letterV m = 0 := Classical.not_not.1 h
      refine ⟨hn, h4, ?_, ?_, ?_⟩ <;> (rintro rfl; exact absurd h0 (by decide))
theorem q_sign {l : List Int} (hl : ∀ n ∈ l, SignP n) {m : Int} (hm : m ∈ qsigns l) : SignP m ∧ classV m ≠ 4 ∧ m ≠ 9 ∧ m ≠ 10 ∧ m ≠ 13 := by
  unfold qsigns qsignsIn at hm
  have h34 : SignP 34 ∧ classV 34 ≠ 4 ∧ (34 : Int) ≠ 9 ∧ (34 : Int) ≠ 10 ∧ (34 : Int) ≠ 13 := by decide
  rcases List.mem_append.1 hm with h | h
  · rcases List.mem_cons.1 h with rfl | h
    · exact h34
    · obtain ⟨n, hn, hmn⟩ := List.mem_flatMap.1 h
      exact qs_sign (hl n hn) hmn
  · obtain rfl := List.mem_singleton.1 h
    exact h34
theorem read_q {l : List Int} (hl : ∀ n ∈ l, SignP n) : Read (quoteB l) (qsigns l) [] := ⟨by rw [List.append_nil, textB_q l hl], fun _ hm => (q_sign hl hm).1, noSign_nil⟩
theorem letter_inj {a b : Int} (ha : letterV a ≠ 0) (h : letterV a = letterV b) : a = b := by
  unfold letterV at ha h
  (repeat' split at h) <;> omega
theorem letter_117 (a : Int) : letterV a ≠ 117 := by unfold letterV; (repeat' split) <;> omega
theorem letter_92 : letterV 92 = 92 := by decide
theorem hexI_inj {a b : Int} (h : hexI a = hexI b) (a0 : 0 ≤ a) (a1 : a < 16) (b0 : 0 ≤ b) (b1 : b < 16) : a = b := by
  unfold hexI at h; (repeat' split at h) <;> omega
/-- no sign's quotation is the beginning of another's -/
theorem qs_free {a b : Int} {x y : List Int} (h : qs a ++ x = qs b ++ y) : a = b := by
  unfold qs at h
  by_cases ha : letterV a ≠ 0
  · rw [if_pos ha] at h
    by_cases hb : letterV b ≠ 0
    · rw [if_pos hb] at h
      simp at h
      exact letter_inj ha h.1
    · rw [if_neg hb] at h
      by_cases hb4 : classV b = 4
      · rw [if_pos hb4] at h
        simp at h
        exact absurd h.1 (letter_117 a)
      · rw [if_neg hb4] at h
        simp at h
        rw [← h.1] at hb
        exact absurd hb (by rw [letter_92]; decide)
  · rw [if_neg ha] at h
    by_cases ha4 : classV a = 4
    · rw [if_pos ha4] at h
      by_cases hb : letterV b ≠ 0
      · rw [if_pos hb] at h
        simp at h
        exact absurd h.1.symm (letter_117 b)
      · rw [if_neg hb] at h
        by_cases hb4 : classV b = 4
        · rw [if_pos hb4] at h
          simp at h
          obtain ⟨c1, c2, _⟩ := class4_bd ha4
          obtain ⟨d1, d2, _⟩ := class4_bd hb4
          have e1 := hexI_inj h.1 (by omega) (by omega) (by omega) (by omega)
          have e2 := hexI_inj h.2.1 (by omega) (by omega) (by omega) (by omega)
          omega
        · rw [if_neg hb4] at h
          simp at h
          rw [← h.1] at hb
          exact absurd hb (by rw [letter_92]; decide)
    · rw [if_neg ha4] at h
      by_cases hb : letterV b ≠ 0
      · rw [if_pos hb] at h
        simp at h
        rw [h.1] at ha
        exact absurd ha (by rw [letter_92]; decide)
      · rw [if_neg hb] at h
        by_cases hb4 : classV b = 4
        · rw [if_pos hb4] at h
          simp at h
          rw [h.1] at ha
          exact absurd ha (by rw [letter_92]; decide)
        · rw [if_neg hb4] at h
          simp at h
          exact h.1
theorem qs_ne (a : Int) : qs a ≠ [] := by unfold qs; (repeat' split) <;> simp
theorem flat_inj {l m : List Int} (h : l.flatMap qs = m.flatMap qs) : l = m := by
  induction l generalizing m with
  | nil =>
    cases m with
    | nil => rfl
    | cons b m =>
      rw [List.flatMap_cons, List.flatMap_nil] at h
      exact absurd (List.append_eq_nil_iff.1 h.symm).1 (qs_ne b)
  | cons a l ih =>
    cases m with
    | nil =>
      rw [List.flatMap_cons, List.flatMap_nil] at h
      exact absurd (List.append_eq_nil_iff.1 h).1 (qs_ne a)
    | cons b m =>
      rw [List.flatMap_cons, List.flatMap_cons] at h
      obtain rfl := qs_free h
      rw [ih (List.append_cancel_left h)]
theorem quote_inj {l m : List Int} (hl : ∀ n ∈ l, SignP n) (hm : ∀ n ∈ m, SignP n) (h : quoteB l = quoteB m) : l = m := by
  have h1 := read_q hl
  rw [h] at h1
  have h2 := (read_one h1 (read_q hm)).1
  unfold qsigns qsignsIn at h2
  have h3 := List.append_cancel_right h2
  injection h3 with _ h4
  exact flat_inj h4
end Go.Proofs.YteicjmippeobpaaDoor
