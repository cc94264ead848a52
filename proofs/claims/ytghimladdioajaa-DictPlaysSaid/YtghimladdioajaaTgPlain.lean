/- Plain laws: the bytes of labels and languages; a text cut at each '-'. No program in sight. -/
import Derived.WalkKit
import Derived.Lib.SplitLaws
import Derived.Lib.IndexBytes
namespace Go.Proofs.Ytghimladdioajaa
open Go Go.RowKit
set_option linter.unusedVariables false
set_option linter.unusedSimpArgs false
/-- a letter, a digit of ASCII -/
def lowI (n : Int) : Bool := decide ((97 ≤ n ∧ n ≤ 122) ∨ (65 ≤ n ∧ n ≤ 90))
def digI (n : Int) : Bool := decide (48 ≤ n ∧ n ≤ 57)
def bI (c : UInt8) : Int := (c.toNat : Int)
/-- may it stand at that place of a label? -/
def okL (i : Nat) (c : UInt8) : Bool := (lowI (bI c) || digI (bI c)) || (decide (i ≠ 0) && (decide (bI c = 95) || decide (bI c = 45)))
def labA : Nat → List UInt8 → Bool
  | _, [] => true
  | i, c :: r => okL i c && labA (i + 1) r
def labV (l : List UInt8) : Bool := decide (1 ≤ l.length) && (decide (l.length ≤ 100) && labA 0 l)
/-- may it stand in a language's part? (the first one: letters alone) -/
def okP (first : Bool) (c : UInt8) : Bool := lowI (bI c) || (!first && digI (bI c))
def langS : Bool → Nat → List UInt8 → Bool
  | _, long, [] => decide (0 < long)
  | p, long, c :: r => if bI c = 45 then (if long = 0 then false else langS true 0 r) else if okP (!p) c then (if 8 < long + 1 then false else langS p (long + 1) r) else false
def langV (l : List UInt8) : Bool := decide (l.length ≤ 40) && langS false 0 l
def pieceOK (first : Bool) (x : List UInt8) : Bool := decide (1 ≤ x.length) && (decide (x.length ≤ 8) && x.all (okP first))
def langP : Bool → List (List UInt8) → Bool
  | _, [] => true
  | f, x :: r => pieceOK f x && langP false r
def spl : List UInt8 → List (List UInt8)
  | [] => [[]]
  | c :: r => if bI c = 45 then [] :: spl r else match spl r with
    | [] => [[c]]
    | x :: xs => (c :: x) :: xs
theorem spl_ne : ∀ l, spl l ≠ []
  | [] => by simp [spl]
  | c :: r => by
    unfold spl
    split
    · simp
    · split <;> simp
theorem langS_spl : ∀ (l : List UInt8) (p : Bool) (long : Nat), long ≤ 8 → ∀ x xs, spl l = x :: xs →
    langS p long l = ((decide (0 < long + x.length) && (decide (long + x.length ≤ 8) && x.all (okP (!p)))) && langP false xs)
  | [], p, long, h, x, xs, e => by
    simp only [spl, List.cons.injEq] at e
    obtain ⟨rfl, rfl⟩ := e
    simp [langS, langP, h]
  | c :: r, p, long, h, x, xs, e => by
    obtain ⟨y, ys, hy⟩ : ∃ y ys, spl r = y :: ys := by
      cases hs : spl r with
      | nil => exact absurd hs (spl_ne r)
      | cons a b => exact ⟨a, b, rfl⟩
    unfold spl at e
    by_cases hc : bI c = 45
    · rw [if_pos hc] at e
      cases e
      unfold langS
      rw [if_pos hc]
      have ih := langS_spl r true 0 (by omega) y ys hy
      by_cases h0 : long = 0
      · rw [if_pos h0, h0]; simp
      · rw [if_neg h0, ih, hy]
        have : decide (0 < long) = true := decide_eq_true (by omega)
        simp only [langP, pieceOK, List.length_nil, Nat.add_zero, Nat.zero_add, List.all_nil, Bool.and_true, this, decide_eq_true h, Bool.true_and, Bool.not_true]
        rfl
    · rw [if_neg hc, hy] at e
      cases e
      unfold langS
      rw [if_neg hc]
      by_cases ho : okP (!p) c = true
      · rw [if_pos ho]
        by_cases h8 : 8 < long + 1
        · rw [if_pos h8]
          have : decide (long + (c :: y).length ≤ 8) = false := decide_eq_false (by simp; omega)
          rw [this]; simp
        · rw [if_neg h8, langS_spl r p (long + 1) (by omega) y _ hy]
          have e1 : long + 1 + y.length = long + (c :: y).length := by simp; omega
          rw [e1, List.all_cons, ho, Bool.true_and]
      · rw [if_neg ho]
        have : okP (!p) c = false := by simpa using ho
        rw [List.all_cons, this]; simp
theorem langS_all (l : List UInt8) : langS false 0 l = langP true (spl l) := by
  cases hs : spl l with
  | nil => exact absurd hs (spl_ne l)
  | cons x xs =>
    rw [langS_spl l false 0 (by omega) x xs hs]
    simp only [langP, pieceOK, Nat.zero_add, Bool.not_false]
    rfl
theorem bI_eq (c : UInt8) : bI c = 45 ↔ c = 45 := by
  unfold bI
  constructor
  · intro h; exact UInt8.toNat_inj.1 (by simp; omega)
  · rintro rfl; rfl
theorem spl_dash (r : List UInt8) : spl (45 :: r) = [] :: spl r := by
  show (if bI 45 = 45 then _ else _) = _
  rw [if_pos ((bI_eq 45).2 rfl)]
theorem spl_cons {c : UInt8} {r x : List UInt8} {xs : List (List UInt8)} (h : ¬ bI c = 45) (hy : spl r = x :: xs) : spl (c :: r) = (c :: x) :: xs := by
  show (if bI c = 45 then _ else _) = _
  rw [if_neg h, hy]
theorem index_first (l : List UInt8) : (∀ x ∈ l, x ≠ 45) ∧ spl l = [l] ∧ l.count 45 = 0 ∨ ∃ a b, l = a ++ 45 :: b ∧ (∀ x ∈ a, x ≠ 45) ∧ spl l = a :: spl b ∧ l.count 45 = 1 + b.count 45 := by
  induction l with
  | nil => exact .inl ⟨by simp, rfl, rfl⟩
  | cons c r ih =>
    by_cases hc : c = 45
    · subst hc
      refine .inr ⟨[], r, rfl, by simp, ?_, by simp; omega⟩
      exact spl_dash r
    · have hb : ¬ bI c = 45 := fun h => hc ((bI_eq c).1 h)
      rcases ih with ⟨h1, h2, h3⟩ | ⟨a, b, h1, h2, h3, h4⟩
      · refine .inl ⟨fun x hx => ?_, ?_, ?_⟩
        · rcases List.mem_cons.1 hx with rfl | h
          · exact hc
          · exact h1 x h
        · exact spl_cons hb h2
        · rw [List.count_cons_of_ne hc, h3]
      · refine .inr ⟨c :: a, b, by rw [h1]; rfl, fun x hx => ?_, ?_, ?_⟩
        · rcases List.mem_cons.1 hx with rfl | h
          · exact hc
          · exact h2 x h
        · exact spl_cons hb h3
        · rw [List.count_cons_of_ne hc, h4]
theorem byte_first (a b : List UInt8) (h : ∀ x ∈ a, x ≠ 45) : Lib.indexByte (a ++ 45 :: b) 45 = a.length := by
  have h1 := Lib.indexByte_ge (a ++ 45 :: b) 45
  have h3 : Lib.indexByte (a ++ 45 :: b) 45 ≠ -1 := fun e => by
    have := Lib.indexByte_none e a.length
    simp at this
  obtain ⟨o, ho⟩ : ∃ o : Nat, Lib.indexByte (a ++ 45 :: b) 45 = o := ⟨(Lib.indexByte (a ++ 45 :: b) 45).toNat, by omega⟩
  obtain ⟨h4, h5⟩ := Lib.indexByte_some ho
  rw [ho]
  rcases Nat.lt_trichotomy o a.length with g | g | g
  · rw [List.getElem?_append_left g] at h4
    exact absurd rfl (h 45 (List.mem_of_getElem? h4))
  · rw [g]
  · have := h5 a.length g
    simp at this
theorem byte_never (l : List UInt8) (h : ∀ x ∈ l, x ≠ 45) : Lib.indexByte l 45 = -1 := by
  have h1 := Lib.indexByte_ge l 45
  by_cases h3 : Lib.indexByte l 45 = -1
  · exact h3
  · obtain ⟨o, ho⟩ : ∃ o : Nat, Lib.indexByte l 45 = o := ⟨(Lib.indexByte l 45).toNat, by omega⟩
    exact absurd rfl (h 45 (List.mem_of_getElem? (Lib.indexByte_some ho).1))
theorem splitK_spl : ∀ (n : Nat) (l : List UInt8), l.count 45 = n → Lib.splitK [45] 0 n l = spl l
  | 0, l, h => by
    rcases index_first l with ⟨_, h2, _⟩ | ⟨a, b, _, _, _, h4⟩
    · rw [h2]; rfl
    · omega
  | n + 1, l, h => by
    rcases index_first l with ⟨_, _, h3⟩ | ⟨a, b, h1, h2, h3, h4⟩
    · omega
    · unfold Lib.splitK
      have e : Lib.index l [45] = a.length := by rw [Lib.index_one, h1]; exact byte_first a b h2
      rw [e, if_neg (by simp), h3, Int.toNat_natCast]
      have e2 : l.take (a.length + 0) = a := by rw [h1]; simp
      have e3 : l.drop (a.length + [45].length) = b := by rw [h1, List.drop_append]; simp
      rw [e2, show l.drop (a.length + ([45] : List UInt8).length) = b from e3, splitK_spl n b (by omega)]
def dashB : ByteArray := ⟨#[45]⟩
theorem split_spl (s : ByteArray) : (Lib.splitB dashB 0 (Lib.countB s dashB) s).map (·.data.toList) = spl s.data.toList := by
  rw [Lib.splitB_data]
  exact splitK_spl _ _ (Lib.count_one 45 s.data.toList).symm
end Go.Proofs.Ytghimladdioajaa
