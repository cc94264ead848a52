/- Plain laws on texts: signs and their bytes, how bytes are read as signs. No program in sight. -/
import Derived.WalkKit
import Derived.Lib.RuneBytes
import Derived.Laws.RangeAny
namespace Go.Proofs.Ytghimladdioajaa
open Go Go.RowKit
/-- a sign's number -/
def SignP (n : Int) : Prop := (0 ≤ n ∧ n < 55296) ∨ (57343 < n ∧ n ≤ 1114111)
instance (n : Int) : Decidable (SignP n) := inferInstanceAs (Decidable (_ ∨ _))
def enc (n : Int) : List UInt8 := Lib.encodeRune n
def bz (b : UInt8) : Int := b.toNat
theorem bz_lt (b : UInt8) : 0 ≤ bz b ∧ bz b < 256 := ⟨by unfold bz; omega, by have := b.toNat_lt; unfold bz; omega⟩
theorem bz_inj {a b : UInt8} (h : bz a = bz b) : a = b := UInt8.toNat_inj.1 (by unfold bz at h; omega)
theorem enc_bz (n : Int) : (enc n).map bz = Lib.encodeRuneZ n := by
  unfold enc Lib.encodeRune
  rw [List.map_map]
  conv => rhs; rw [← List.map_id (Lib.encodeRuneZ n)]
  refine List.map_congr_left fun x hx => ?_
  obtain ⟨h0, h1⟩ := Lib.encodeRuneZ_byte n x hx
  simp [Function.comp, bz]
  omega
theorem map_bz_inj {a b : List UInt8} (h : a.map bz = b.map bz) : a = b := List.map_inj_right (fun _ _ => bz_inj) |>.1 h
inductive Wide : Int → Nat → Prop
  | one {n} : 0 ≤ n → n ≤ 127 → Wide n 1
  | two {n} : 128 ≤ n → n ≤ 2047 → Wide n 2
  | three {n} : (2048 ≤ n ∧ n < 55296) ∨ (57343 < n ∧ n ≤ 65535) → Wide n 3
  | four {n} : 65536 ≤ n → n ≤ 1114111 → Wide n 4
theorem wide_of {n : Int} (h : SignP n) : ∃ k, Wide n k := by
  unfold SignP at h
  by_cases h1 : n ≤ 127
  · exact ⟨1, .one (by omega) h1⟩
  by_cases h2 : n ≤ 2047
  · exact ⟨2, .two (by omega) h2⟩
  by_cases h3 : n ≤ 65535
  · exact ⟨3, .three (by omega)⟩
  · exact ⟨4, .four (by omega) (by omega)⟩
theorem enc_len {n : Int} {k : Nat} (h : Wide n k) : (enc n).length = k := by
  have e : (enc n).length = (Lib.encodeRuneZ n).length := by rw [← enc_bz, List.length_map]
  rw [e]
  cases h with
  | one a b => rw [Lib.encodeRuneZ_one a b]; rfl
  | two a b => rw [Lib.encodeRuneZ_two a b]; rfl
  | three a => rw [Lib.encodeRuneZ_three a]; rfl
  | four a b => rw [Lib.encodeRuneZ_four a b]; rfl
theorem enc_pos (n : Int) : 1 ≤ (enc n).length ∧ (enc n).length ≤ 4 := by
  have e : (enc n).length = (Lib.encodeRuneZ n).length := by rw [← enc_bz, List.length_map]
  rw [e]; exact Lib.encodeRuneZ_length n
theorem enc_ne (n : Int) : enc n ≠ [] := fun h => by have := (enc_pos n).1; rw [h] at this; simp at this
/-- no sign's bytes are the beginning of another's -/
theorem enc_free {m n : Int} (hm : SignP m) (hn : SignP n) {x y : List UInt8} (h : enc m ++ x = enc n ++ y) : m = n := by
  have h' : Lib.encodeRuneZ m ++ x.map bz = Lib.encodeRuneZ n ++ y.map bz := by
    rw [← enc_bz, ← enc_bz, ← List.map_append, ← List.map_append, h]
  obtain ⟨i, hi⟩ := wide_of hm
  obtain ⟨j, hj⟩ := wide_of hn
  cases hi with
  | one a b =>
    rw [Lib.encodeRuneZ_one a b] at h'
    cases hj with
    | one c d => rw [Lib.encodeRuneZ_one c d] at h'; simp at h'; omega
    | two c d => rw [Lib.encodeRuneZ_two c d] at h'; simp at h'; omega
    | three c => rw [Lib.encodeRuneZ_three c] at h'; simp at h'; omega
    | four c d => rw [Lib.encodeRuneZ_four c d] at h'; simp at h'; omega
  | two a b =>
    rw [Lib.encodeRuneZ_two a b] at h'
    cases hj with
    | one c d => rw [Lib.encodeRuneZ_one c d] at h'; simp at h'; omega
    | two c d => rw [Lib.encodeRuneZ_two c d] at h'; simp at h'; omega
    | three c => rw [Lib.encodeRuneZ_three c] at h'; simp at h'; omega
    | four c d => rw [Lib.encodeRuneZ_four c d] at h'; simp at h'; omega
  | three a =>
    rw [Lib.encodeRuneZ_three a] at h'
    cases hj with
    | one c d => rw [Lib.encodeRuneZ_one c d] at h'; simp at h'; omega
    | two c d => rw [Lib.encodeRuneZ_two c d] at h'; simp at h'; omega
    | three c => rw [Lib.encodeRuneZ_three c] at h'; simp at h'; omega
    | four c d => rw [Lib.encodeRuneZ_four c d] at h'; simp at h'; omega
  | four a b =>
    rw [Lib.encodeRuneZ_four a b] at h'
    cases hj with
    | one c d => rw [Lib.encodeRuneZ_one c d] at h'; simp at h'; omega
    | two c d => rw [Lib.encodeRuneZ_two c d] at h'; simp at h'; omega
    | three c => rw [Lib.encodeRuneZ_three c] at h'; simp at h'; omega
    | four c d => rw [Lib.encodeRuneZ_four c d] at h'; simp at h'; omega
/-- a text's bytes -/
def textB (l : List Int) : List UInt8 := l.flatMap enc
theorem textB_nil : textB [] = [] := rfl
theorem textB_cons (n : Int) (l : List Int) : textB (n :: l) = enc n ++ textB l := rfl
theorem textB_append (a b : List Int) : textB (a ++ b) = textB a ++ textB b := by unfold textB; rw [List.flatMap_append]
theorem textB_one (n : Int) : textB [n] = enc n := by simp [textB]
theorem textB_snoc (l : List Int) (n : Int) : textB (l ++ [n]) = textB l ++ enc n := by rw [textB_append, textB_one]
/-- no sign stands at the beginning -/
def NoSign (r : List UInt8) : Prop := ∀ n, SignP n → ¬ enc n <+: r
/-- bytes read as signs, as far as they are signs' -/
def Read (bs : List UInt8) (l : List Int) (r : List UInt8) : Prop := bs = textB l ++ r ∧ (∀ n ∈ l, SignP n) ∧ NoSign r
theorem noSign_nil : NoSign [] := fun n _ h => enc_ne n (List.prefix_nil.1 h)
theorem read_some (bs : List UInt8) : ∃ l r, Read bs l r := by
  suffices h : ∀ k (bs : List UInt8), bs.length ≤ k → ∃ l r, Read bs l r from h _ bs (Nat.le_refl _)
  intro k
  induction k with
  | zero =>
    intro bs h
    obtain rfl : bs = [] := List.eq_nil_of_length_eq_zero (by omega)
    exact ⟨[], [], rfl, (fun _ h => by cases h), noSign_nil⟩
  | succ k ih =>
    intro bs h
    by_cases hs : ∃ n, SignP n ∧ enc n <+: bs
    · obtain ⟨n, hn, t, rfl⟩ := hs
      have := (enc_pos n).1
      rw [List.length_append] at h
      obtain ⟨l, r, rfl, h2, h3⟩ := ih t (by omega)
      refine ⟨n :: l, r, by rw [textB_cons, List.append_assoc], ?_, h3⟩
      intro m hm
      rcases List.mem_cons.1 hm with rfl | hm
      · exact hn
      · exact h2 m hm
    · exact ⟨[], bs, rfl, (fun _ h => by cases h), fun n hn hp => hs ⟨n, hn, hp⟩⟩
theorem read_one {bs : List UInt8} {l l' : List Int} {r r' : List UInt8} (h : Read bs l r) (h' : Read bs l' r') : l = l' ∧ r = r' := by
  obtain ⟨rfl, h2, h3⟩ := h
  obtain ⟨e, h2', h3'⟩ := h'
  induction l generalizing l' with
  | nil =>
    cases l' with
    | nil => exact ⟨rfl, e⟩
    | cons n l' =>
      exfalso
      rw [textB_cons, List.append_assoc] at e
      exact h3 n (h2' n List.mem_cons_self) ⟨_, e.symm⟩
  | cons m l ih =>
    cases l' with
    | nil =>
      exfalso
      rw [textB_cons, List.append_assoc] at e
      exact h3' m (h2 m List.mem_cons_self) ⟨_, e⟩
    | cons n l' =>
      rw [textB_cons, textB_cons, List.append_assoc, List.append_assoc] at e
      obtain rfl := enc_free (h2 m List.mem_cons_self) (h2' n List.mem_cons_self) e
      obtain ⟨rfl, rfl⟩ := ih (fun x hx => h2 x (List.mem_cons_of_mem _ hx)) (List.append_cancel_left e) (fun x hx => h2' x (List.mem_cons_of_mem _ hx))
      exact ⟨rfl, rfl⟩
end Go.Proofs.Ytghimladdioajaa
