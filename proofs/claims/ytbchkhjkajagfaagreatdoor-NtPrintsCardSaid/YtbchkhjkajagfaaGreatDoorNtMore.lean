/- Plain laws on package nt's readers: how far they go, how much they read, that what is parsed may be printed; behind other signs they read the same. -/
import Derived.Test.YtbchkhjkajagfaaGreatDoorNtBack
namespace Go.Proofs.YtbchkhjkajagfaaGreatDoor
open Go Go.RowKit
set_option linter.unusedVariables false
set_option linter.unusedSimpArgs false
def Signs (l : List Int) : Prop := ∀ n ∈ l, SignP n
theorem Signs.snoc {l : List Int} {x : Int} (h : Signs l) (hx : SignP x) : Signs (l ++ [x]) := by
  intro n hn
  rcases List.mem_append.1 hn with hn | hn
  · exact h n hn
  · rw [List.mem_singleton.1 hn]; exact hx
theorem Signs.app {a b : List Int} (ha : Signs a) (hb : Signs b) : Signs (a ++ b) := by
  intro n hn
  rcases List.mem_append.1 hn with hn | hn
  · exact ha n hn
  · exact hb n hn
theorem Signs.nil : Signs [] := fun n hn => by cases hn
theorem signs_word {l : List Int} (hl : Signs l) (u : Bool) (i : Nat) : Signs (wordT l i u).1 := by
  intro n hn
  exact hl n (List.mem_of_mem_drop ((List.takeWhile_sublist _).subset hn))
theorem read_tB {l : List Int} (h : Signs l) : Read (tBytes l).data.toList l [] := by
  refine ⟨?_, h, noSign_nil⟩
  unfold tBytes
  simp
theorem sg_tB {l : List Int} (h : Signs l) : sg (tBytes l) = l := sg_eq (read_tB h)
theorem tB_size (l : List Int) : (tBytes l).size ≤ 4 * l.length := by
  have := textB_le l
  show (textB l).toArray.size ≤ _
  simpa using this
theorem iriGo_facts {l : List Int} (hl : Signs l) : ∀ (f i : Nat) (acc r : List Int) (j : Nat), Signs acc → iriGo l f i acc = (some r, j) → i < j ∧ j ≤ l.length ∧ r.length + i + 1 ≤ acc.length + j ∧ Signs r
  | 0, i, acc, r, j, _, h => by unfold iriGo at h; injection h with h _; cases h
  | f + 1, i, acc, r, j, ha, h => by
    unfold iriGo at h
    split at h
    · injection h with h _; cases h
    · rename_i hne
      split at h
      · rename_i h62
        injection h with h1 h2
        injection h1 with h1
        subst h1 h2
        have := pk_lt h62 (by decide)
        exact ⟨by omega, by omega, by omega, ha⟩
      · split at h
        · split at h
          · split at h
            · rename_i x j' hx
              obtain ⟨n1, n2, n3⟩ := numV_some _ _ _ _ _ _ hx
              obtain ⟨a1, a2, a3, a4⟩ := iriGo_facts hl f _ _ _ _ (ha.snoc n3) h
              rw [List.length_append] at a3
              simp only [List.length_cons, List.length_nil] at a3
              exact ⟨by omega, a2, by omega, a4⟩
            · injection h with h _; cases h
          · split at h
            · split at h
              · rename_i x j' hx
                obtain ⟨n1, n2, n3⟩ := numV_some _ _ _ _ _ _ hx
                obtain ⟨a1, a2, a3, a4⟩ := iriGo_facts hl f _ _ _ _ (ha.snoc n3) h
                rw [List.length_append] at a3
                simp only [List.length_cons, List.length_nil] at a3
                exact ⟨by omega, a2, by omega, a4⟩
              · injection h with h _; cases h
            · injection h with h _; cases h
        · have hs : SignP (pk l i) := by
            rcases pk_sign hl i with h1 | h1
            · exact absurd (.inl h1) hne
            · exact h1
          obtain ⟨a1, a2, a3, a4⟩ := iriGo_facts hl f _ _ _ _ (ha.snoc hs) h
          rw [List.length_append] at a3
          simp only [List.length_cons, List.length_nil] at a3
          exact ⟨by omega, a2, by omega, a4⟩
theorem iri_facts {l : List Int} (hl : Signs l) {i j : Nat} {r : List Int} (h : iriT l i = (some r, j)) : i < j ∧ j ≤ l.length ∧ r.length + i + 2 ≤ j ∧ Signs r := by
  unfold iriT at h
  split at h
  · obtain ⟨a1, a2, a3, a4⟩ := iriGo_facts hl _ _ _ _ _ Signs.nil h
    simp only [List.length_nil] at a3
    exact ⟨by omega, a2, by omega, a4⟩
  · injection h with h _; cases h
theorem qgo_facts {l : List Int} (hl : Signs l) : ∀ (f i : Nat) (acc r : List Int) (j : Nat), Signs acc → qgo l f i acc = (some r, j) → i < j ∧ j ≤ l.length ∧ r.length + i + 1 ≤ acc.length + j ∧ Signs r
  | 0, i, acc, r, j, _, h => by unfold qgo at h; injection h with h _; cases h
  | f + 1, i, acc, r, j, ha, h => by
    unfold qgo at h
    split at h
    · rename_i hi
      split at h
      · injection h with h1 h2
        injection h1 with h1
        subst h1 h2
        exact ⟨by omega, by omega, by omega, ha⟩
      · split at h
        · split at h
          · rename_i x j' hx
            obtain ⟨n1, n2, n3⟩ := escV_some hx
            obtain ⟨a1, a2, a3, a4⟩ := qgo_facts hl f _ _ _ _ (ha.snoc n3) h
            rw [List.length_append] at a3
            simp only [List.length_cons, List.length_nil] at a3
            exact ⟨by omega, a2, by omega, a4⟩
          · injection h with h _; cases h
        · split at h
          · injection h with h _; cases h
          · obtain ⟨a1, a2, a3, a4⟩ := qgo_facts hl f _ _ _ _ (ha.snoc (hl _ (List.getElem_mem hi))) h
            rw [List.length_append] at a3
            simp only [List.length_cons, List.length_nil] at a3
            exact ⟨by omega, a2, by omega, a4⟩
    · injection h with h _; cases h
theorem quoted_facts {l : List Int} (hl : Signs l) {i j : Nat} {r : List Int} (h : quotedV l i = (some r, j)) : i < j ∧ j ≤ l.length ∧ r.length + i + 2 ≤ j ∧ Signs r := by
  unfold quotedV at h
  split at h
  · obtain ⟨a1, a2, a3, a4⟩ := qgo_facts hl _ _ _ _ _ Signs.nil h
    simp only [List.length_nil] at a3
    exact ⟨by omega, a2, by omega, a4⟩
  · injection h with h _; cases h
theorem qs_len (n : Int) : (qs n).length ≤ 6 := by unfold qs; (repeat' split) <;> simp
theorem flat_le : ∀ l : List Int, (l.flatMap qs).length ≤ 6 * l.length
  | [] => by simp
  | a :: l => by
    have h1 := flat_le l
    have h2 := qs_len a
    rw [List.flatMap_cons, List.length_append, List.length_cons]
    omega
theorem qsigns_le (l : List Int) : (qsigns l).length ≤ 6 * l.length + 2 := by
  have := flat_le l
  unfold qsigns qsignsIn
  simp only [List.length_append, List.length_cons, List.length_nil]
  omega
theorem tmS_iri (s : ByteArray) : tmS (.iri s) = 60 :: (sg s ++ [62]) := rfl
theorem tmS_blank (s : ByteArray) : tmS (.blank s) = 95 :: 58 :: sg s := rfl
theorem tmS_lit (s t g : ByteArray) : tmS (.lit s t g) = qsigns (sg s) ++ (if g.data.toList = [] then (if t.data.toList = ntString.data.toList then [] else 94 :: 94 :: 60 :: (sg t ++ [62])) else 64 :: sg g) := rfl
theorem empty_small : (⟨#[]⟩ : ByteArray).size ≤ 1000000 := by decide
theorem lang_small : ntLang.size ≤ 1000000 := by decide
theorem string_small : ntString.size ≤ 1000000 := by decide
/-- what a form's term is: small, and not longer than what it stands in -/
theorem form_facts {l : List Int} (hl : Signs l) (hb : l.length ≤ 100000) {i j : Nat} {X : Tm} (h : formT l i = (some X, j)) : i < j ∧ j ≤ l.length ∧ Small X ∧ (GoodS X → (tmS X).length ≤ 6 * (j - i)) := by
  have hw : ∀ u q, q ≤ l.length → (wordT l q u).1.length + q = (wordT l q u).2 ∧ (wordT l q u).2 ≤ l.length := fun u q hq => by
    have := twk_le (C := wordC u) hq
    exact ⟨by show ((l.drop q).takeWhile (wordC u)).length + q = q + ((l.drop q).takeWhile (wordC u)).length; omega, this⟩
  unfold formT at h
  split at h
  · cases hi : iriT l i with
    | mk o q =>
      rw [hi] at h
      cases o with
      | none => injection h with h _; cases h
      | some r =>
        injection h with h1 h2
        injection h1 with h1
        obtain ⟨a1, a2, a3, a4⟩ := iri_facts hl hi
        have a2 : q ≤ l.length := a2
        have h2 : q = j := h2
        subst h2
        have h1 : Tm.iri (tBytes r) = X := h1
        subst h1
        have hz := tB_size r
        refine ⟨a1, a2, ⟨by show (tBytes r).size ≤ _; omega, empty_small, empty_small⟩, fun _ => ?_⟩
        rw [tmS_iri, sg_tB a4]
        simp only [List.length_cons, List.length_append, List.length_nil]
        omega
  · split at h
    · split at h
      · rename_i h95 h58
        injection h with h1 h2
        injection h1 with h1
        have hq := pk_lt h58 (by decide)
        obtain ⟨b1, b2⟩ := hw true (i + 2) (by omega)
        have hs := signs_word hl true (i + 2)
        subst h1 h2
        have hz := tB_size (wordT l (i + 2) true).1
        refine ⟨by omega, b2, ⟨by show (tBytes _).size ≤ _; omega, empty_small, empty_small⟩, fun _ => ?_⟩
        rw [tmS_blank, sg_tB hs]
        simp only [List.length_cons]
        omega
      · injection h with h _; cases h
    · split at h
      · split at h
        · injection h with h _; cases h
        · rename_i t q hq
          obtain ⟨a1, a2, a3, a4⟩ := quoted_facts hl hq
          have hz := tB_size t
          have hql := qsigns_le t
          split at h
          · cases hi : iriT l (q + 2) with
            | mk o q2 =>
              rw [hi] at h
              cases o with
              | none => injection h with h _; cases h
              | some r =>
                injection h with h1 h2
                injection h1 with h1
                obtain ⟨c1, c2, c3, c4⟩ := iri_facts hl hi
                have c2 : q2 ≤ l.length := c2
                have h2 : q2 = j := h2
                subst h2
                have h1 : Tm.lit (tBytes t) (tBytes r) ⟨#[]⟩ = X := h1
                subst h1
                have hz2 := tB_size r
                refine ⟨by omega, c2, ⟨by show (tBytes t).size ≤ _; omega, by show (tBytes r).size ≤ _; omega, empty_small⟩, fun _ => ?_⟩
                rw [tmS_lit, sg_tB a4, sg_tB c4]
                split
                · split
                  · simp only [List.length_append, List.length_nil]; omega
                  · simp only [List.length_append, List.length_cons, List.length_nil]; omega
                · rename_i hne; exact absurd rfl hne
          · split at h
            · rename_i h64
              injection h with h1 h2
              injection h1 with h1
              have hq := pk_lt h64 (by decide)
              obtain ⟨b1, b2⟩ := hw false (q + 1) (by omega)
              have hs := signs_word hl false (q + 1)
              subst h1 h2
              have hz2 := tB_size (wordT l (q + 1) false).1
              refine ⟨by omega, b2, ⟨by show (tBytes t).size ≤ _; omega, lang_small, by show (tBytes _).size ≤ _; omega⟩, fun hgs => ?_⟩
              rw [tmS_lit, sg_tB a4, sg_tB hs]
              split
              · rename_i hemp
                rcases hgs.2.2.2 with ⟨_, h⟩ | ⟨h, _⟩
                · exact absurd rfl h
                · exact absurd hemp h
              · simp only [List.length_append, List.length_cons]; omega
            · injection h with h1 h2
              injection h1 with h1
              subst h1 h2
              refine ⟨by omega, a2, ⟨by show (tBytes t).size ≤ _; omega, string_small, empty_small⟩, fun _ => ?_⟩
              rw [tmS_lit, sg_tB a4]
              split
              · split
                · simp only [List.length_append, List.length_nil]; omega
                · rename_i hne; exact absurd rfl hne
              · rename_i hne; exact absurd rfl hne
      · injection h with h _; cases h
theorem read_facts {G : Tm → Bool} {l : List Int} (hl : Signs l) (hb : l.length ≤ 100000) {i j : Nat} {X : Tm} {c : Int} (h : readT G l i = (some X, j, c)) : c = 0 ∧ i < j ∧ j ≤ l.length ∧ Small X ∧ (GoodS X → (tmS X).length ≤ 6 * (j - i)) ∧ G X = true := by
  unfold readT at h
  split at h
  · injection h with h _; cases h
  · rename_i Y q hf
    split at h
    · rename_i hg
      injection h with h1 h2
      injection h1 with h1
      injection h2 with h2 h3
      subst h1 h2
      obtain ⟨a1, a2, a3, a4⟩ := form_facts hl hb hf
      exact ⟨h3.symm, a1, a2, a3, a4, hg⟩
    · injection h with h _; cases h
theorem gap_facts (l : List Int) {i : Nat} (h : i ≤ l.length) : i ≤ gapT l i ∧ gapT l i ≤ l.length := ⟨by unfold gapT; omega, twk_le h⟩
theorem place_facts {G may : Tm → Bool} {l : List Int} (hl : Signs l) (hb : l.length ≤ 100000) {i j : Nat} {X : Tm} {c : Int} (h : placeT G may l i = (some X, j, c)) : c = 0 ∧ i < j ∧ j ≤ l.length ∧ Small X ∧ (GoodS X → (tmS X).length ≤ 6 * (j - i)) ∧ G X = true ∧ may X = true := by
  unfold placeT at h
  split at h
  · injection h with h _; cases h
  · rename_i Y q c' hr
    split at h
    · rename_i hm
      injection h with h1 h2
      injection h1 with h1
      injection h2 with h2 h3
      subst h1 h2
      obtain ⟨_, a1, a2, a3, a4, a5⟩ := read_facts hl hb hr
      obtain ⟨b1, b2⟩ := gap_facts l a2
      exact ⟨h3.symm, by omega, b2, a3, fun hgs => by have := a4 hgs; omega, a5, hm⟩
    · injection h with h _; cases h
def SmallTri (t : Tri) : Prop := Small t.s ∧ Small t.p ∧ Small t.o
def KeyTri (t : Tri) : Prop := KeyT t.s ∧ KeyT t.p ∧ KeyT t.o
theorem triple_facts {G : Tm → Bool} (hG : GoodFn G) {l : List Int} (hl : Signs l) (hb : l.length ≤ 100000) {i j : Nat} {t : Tri} {c : Int} (h : tripleT G l i = (some t, j, c)) : c = 0 ∧ i < j ∧ j ≤ l.length ∧ GoodTri G t ∧ SmallTri t ∧ KeyTri t ∧ (lineS t).length ≤ 7 * (j - i) := by
  unfold tripleT at h
  split at h
  · injection h with h _; cases h
  · rename_i X j1 c1 h1
    split at h
    · injection h with h _; cases h
    · rename_i Y j2 c2 h2
      split at h
      · injection h with h _; cases h
      · rename_i Z j3 c3 h3
        split at h
        · rename_i h46
          have hp := pk_lt h46 (by decide)
          injection h with e1 e2
          injection e1 with e1
          injection e2 with e2 e3
          subst e1 e2
          obtain ⟨_, a1, a2, a3, a4, a5, a6⟩ := place_facts hl hb h1
          obtain ⟨_, b1, b2, b3, b4, b5, b6⟩ := place_facts hl hb h2
          obtain ⟨_, d1, d2, d3, d4, d5, d6⟩ := place_facts hl hb h3
          obtain ⟨k1, g1⟩ := good_signs hG a3 a5
          obtain ⟨k2, g2⟩ := good_signs hG b3 b5
          obtain ⟨k3, g3⟩ := good_signs hG d3 d5
          refine ⟨e3.symm, by omega, by omega, ⟨⟨g1, a5, a6⟩, ⟨g2, b5, b6⟩, g3, d5⟩, ⟨a3, b3, d3⟩, ⟨k1, k2, k3⟩, ?_⟩
          have a4 := a4 g1
          have b4 := b4 g2
          have d4 := d4 g3
          unfold lineS triS
          simp only [List.length_append, List.length_cons, List.length_nil]
          omega
        · injection h with h _; cases h
theorem note_facts (l : List Int) {i : Nat} (h : i ≤ l.length) : i ≤ noteT l i ∧ noteT l i ≤ l.length := by
  obtain ⟨a, b⟩ := gap_facts l h
  unfold noteT
  split
  · exact ⟨by omega, twk_le b⟩
  · exact ⟨a, b⟩
theorem over_facts (l : List Int) {i : Nat} (h : i ≤ l.length) : i ≤ (overT l i).1 ∧ (overT l i).1 ≤ l.length ∧ ((overT l i).2 = true → i < l.length → i < (overT l i).1) ∧ ((overT l i).2 = false → (overT l i).1 < l.length) := by
  obtain ⟨a, b⟩ := note_facts l h
  unfold overT
  split
  · rename_i h1
    have := pk_lt h1.2 (by decide)
    exact ⟨by show i ≤ noteT l i + 2; omega, by show noteT l i + 2 ≤ _; omega, fun _ _ => by show i < noteT l i + 2; omega, fun h => by cases h⟩
  · split
    · rename_i h1
      have := pk_lt h1 (by decide)
      exact ⟨by show i ≤ noteT l i + 1; omega, by show noteT l i + 1 ≤ _; omega, fun _ _ => by show i < noteT l i + 1; omega, fun h => by cases h⟩
    · refine ⟨a, b, fun h hi => ?_, fun h => ?_⟩
      · have : l.length ≤ noteT l i := of_decide_eq_true h
        show i < noteT l i
        omega
      · have : ¬ l.length ≤ noteT l i := of_decide_eq_false h
        show noteT l i < _
        omega
/-- what is parsed: good triples, not longer than what they stand in -/
theorem parse_facts {G : Tm → Bool} (hG : GoodFn G) {l : List Int} (hl : Signs l) (hb : l.length ≤ 100000) : ∀ (f i : Nat) (acc : List Tri), i ≤ l.length → (∀ t ∈ acc, GoodTri G t ∧ SmallTri t ∧ KeyTri t) → (linesS acc).length ≤ 7 * i → (∀ t ∈ (parseGo G l f i acc).1, GoodTri G t ∧ SmallTri t ∧ KeyTri t) ∧ (linesS (parseGo G l f i acc).1).length ≤ 7 * l.length
  | 0, i, acc, hi, ha, hn => ⟨ha, by show (linesS acc).length ≤ _; omega⟩
  | f + 1, i, acc, hi, ha, hn => by
    unfold parseGo
    split
    · exact ⟨ha, by show (linesS acc).length ≤ _; omega⟩
    · have ho := over_facts l hi
      split
      · rename_i j e
        rw [e] at ho
        have h1 : i ≤ j := ho.1
        exact parse_facts hG hl hb f j acc ho.2.1 ha (by omega)
      · rename_i j e
        rw [e] at ho
        have h1 : i ≤ j := ho.1
        split
        · exact ⟨fun t ht => (by cases ht), by simp [linesS]⟩
        · rename_i t k c ht
          obtain ⟨_, b1, b2, b3, b4, b5, b6⟩ := triple_facts hG hl hb ht
          have ho2 := over_facts l b2
          split
          · rename_i n e2
            rw [e2] at ho2
            have h2 : k ≤ n := ho2.1
            refine parse_facts hG hl hb f n _ ho2.2.1 (fun x hx => ?_) ?_
            · rcases List.mem_append.1 hx with hx | hx
              · exact ha x hx
              · rw [List.mem_singleton.1 hx]; exact ⟨b3, b4, b5⟩
            · unfold linesS at hn ⊢
              rw [List.flatMap_append, List.length_append, List.flatMap_singleton]
              omega
          · exact ⟨fun t ht => (by cases ht), by simp [linesS]⟩
/-- enough rounds are enough -/
theorem parse_fuel {G : Tm → Bool} (hG : GoodFn G) {l : List Int} (hl : Signs l) (hb : l.length ≤ 100000) : ∀ (f f' i : Nat) (acc : List Tri), i ≤ l.length → l.length < f + i → l.length < f' + i → parseGo G l f i acc = parseGo G l f' i acc
  | 0, f', i, acc, hi, h1, h2 => by omega
  | f + 1, 0, i, acc, hi, h1, h2 => by omega
  | f + 1, f' + 1, i, acc, hi, h1, h2 => by
    unfold parseGo
    by_cases hq : l.length ≤ i
    · rw [if_pos hq, if_pos hq]
    · rw [if_neg hq, if_neg hq]
      have ho := over_facts l hi
      cases e : overT l i with
      | mk j b =>
        rw [e] at ho
        cases b with
        | true =>
          have h3 : i < j := ho.2.2.1 rfl (by omega)
          exact parse_fuel hG hl hb f f' j acc ho.2.1 (by omega) (by omega)
        | false =>
          have h3 : i ≤ j := ho.1
          dsimp only
          cases ht : tripleT G l j with
          | mk o r =>
            obtain ⟨k, c⟩ := r
            cases o with
            | none => rfl
            | some t =>
              obtain ⟨_, b1, b2, _⟩ := triple_facts hG hl hb ht
              have ho2 := over_facts l b2
              dsimp only
              cases e2 : overT l k with
              | mk n b =>
                rw [e2] at ho2
                cases b with
                | true =>
                  have h4 : k ≤ n := ho2.1
                  exact parse_fuel hG hl hb f f' n _ ho2.2.1 (by omega) (by omega)
                | false => rfl
/-! behind other signs -/
section
variable {A l : List Int}
theorem pk_sh (A l : List Int) (i : Nat) : pk (A ++ l) (A.length + i) = pk l i := by rw [← pk_drop, List.drop_left]
theorem drop_sh (A l : List Int) (i : Nat) : (A ++ l).drop (A.length + i) = l.drop i := by rw [← List.drop_drop, List.drop_left]
theorem len_sh (A l : List Int) (i : Nat) : (A ++ l).length - (A.length + i) = l.length - i := by rw [List.length_append]; omega
theorem twN_sh (C : Int → Bool) (A l : List Int) (i : Nat) : twN C (A ++ l) (A.length + i) = twN C l i := by unfold twN; rw [drop_sh]
def shO {α : Type} (k : Nat) (r : Option α × Nat) : Option α × Nat := (r.1, k + r.2)
def shE {α : Type} (k : Nat) (r : Option α × Nat × Int) : Option α × Nat × Int := (r.1, k + r.2.1, r.2.2)
theorem num_pk (l : List Int) (k i : Nat) (s : Int) : numV l (k + 1) i s = if hexV (pk l i) < 0 then (none, i) else numV l k (i + 1) (s * 16 + hexV (pk l i)) := by
  conv => lhs; unfold numV
  by_cases h : i < l.length
  · rw [dif_pos h, pk_yes h]
  · rw [dif_neg h, pk_no (by omega), if_pos (by decide)]
theorem num_sh (A l : List Int) : ∀ (k i : Nat) (s : Int), 1 ≤ i → numV (A ++ l) k (A.length + i) s = shO A.length (numV l k i s)
  | 0, i, s, h => by
    unfold numV shO
    split
    · rfl
    · show (none, A.length + i - 1) = (none, A.length + (i - 1))
      rw [Nat.add_sub_assoc h]
  | k + 1, i, s, h => by
    rw [num_pk, num_pk, pk_sh]
    split
    · rfl
    · rw [Nat.add_assoc, num_sh A l k (i + 1) _ (by omega)]
theorem iriGo_sh (A l : List Int) : ∀ (f i : Nat) (acc : List Int), iriGo (A ++ l) f (A.length + i) acc = shO A.length (iriGo l f i acc)
  | 0, i, acc => rfl
  | f + 1, i, acc => by
    unfold iriGo
    rw [pk_sh, Nat.add_assoc, pk_sh, Nat.add_assoc, num_sh A l 4 (i + 2) 0 (by omega), num_sh A l 8 (i + 2) 0 (by omega)]
    split
    · rfl
    · split
      · rfl
      · split
        · split
          · cases numV l 4 (i + 2) 0 with
            | mk o j => cases o with
              | none => rfl
              | some x => exact iriGo_sh A l f j _
          · split
            · cases numV l 8 (i + 2) 0 with
              | mk o j => cases o with
                | none => rfl
                | some x => exact iriGo_sh A l f j _
            · rfl
        · exact iriGo_sh A l f (i + 1) _
theorem iri_sh (A l : List Int) (i : Nat) : iriT (A ++ l) (A.length + i) = shO A.length (iriT l i) := by
  unfold iriT
  rw [pk_sh, len_sh, Nat.add_assoc, iriGo_sh]
  split
  · rfl
  · rfl
theorem word_sh (A l : List Int) (i : Nat) (u : Bool) : wordT (A ++ l) (A.length + i) u = ((wordT l i u).1, A.length + (wordT l i u).2) := by
  unfold wordT
  rw [twN_sh, drop_sh, Nat.add_assoc]
theorem esc_pk {l : List Int} (hl : Signs l) (i : Nat) : escV l i = if pk l i = -1 then (none, i) else (match escOf (pk l i) with
    | some x => (some x, i + 1)
    | none => if pk l i = 117 then numV l 4 (i + 1) 0 else if pk l i = 85 then numV l 8 (i + 1) 0 else (none, i)) := by
  unfold escV
  by_cases h : i < l.length
  · have hs := hl _ (List.getElem_mem h)
    rw [dif_pos h, pk_yes h]
    conv => rhs; rw [if_neg (c := l[i]'h = -1) (fun e => by rw [e] at hs; exact absurd hs (by decide))]
    rfl
  · rw [dif_neg h, pk_no (by omega), if_pos rfl]
theorem qgo_pk {l : List Int} (hl : Signs l) (f i : Nat) (acc : List Int) : qgo l (f + 1) i acc = if pk l i = -1 then (none, i) else if pk l i = 34 then (some acc, i + 1) else if pk l i = 92 then (match escV l (i + 1) with | (some x, j) => qgo l f j (acc ++ [x]) | (none, j) => (none, j))
      else if pk l i = 10 ∨ pk l i = 13 then (none, i) else qgo l f (i + 1) (acc ++ [pk l i]) := by
  conv => lhs; unfold qgo
  by_cases h : i < l.length
  · have hs := hl _ (List.getElem_mem h)
    rw [dif_pos h, pk_yes h]
    conv => rhs; rw [if_neg (c := l[i]'h = -1) (fun e => by rw [e] at hs; exact absurd hs (by decide))]
    rfl
  · rw [dif_neg h, pk_no (by omega), if_pos rfl]
theorem esc_sh (hA : Signs A) (hl : Signs l) (i : Nat) : escV (A ++ l) (A.length + i) = shO A.length (escV l i) := by
  rw [esc_pk (hA.app hl), esc_pk hl, pk_sh, Nat.add_assoc, num_sh A l 4 (i + 1) 0 (by omega), num_sh A l 8 (i + 1) 0 (by omega)]
  split
  · rfl
  · split
    · rfl
    · split
      · rfl
      · split
        · rfl
        · rfl
theorem qgo_sh (hA : Signs A) (hl : Signs l) : ∀ (f i : Nat) (acc : List Int), qgo (A ++ l) f (A.length + i) acc = shO A.length (qgo l f i acc)
  | 0, i, acc => rfl
  | f + 1, i, acc => by
    rw [qgo_pk (hA.app hl), qgo_pk hl, pk_sh, Nat.add_assoc, esc_sh hA hl]
    split
    · rfl
    · split
      · rfl
      · split
        · cases escV l (i + 1) with
          | mk o j => cases o with
            | none => rfl
            | some x => exact qgo_sh hA hl f j _
        · split
          · rfl
          · exact qgo_sh hA hl f (i + 1) _
theorem quoted_sh (hA : Signs A) (hl : Signs l) (i : Nat) : quotedV (A ++ l) (A.length + i) = shO A.length (quotedV l i) := by
  unfold quotedV
  rw [drop_sh, len_sh, Nat.add_assoc, qgo_sh hA hl]
  split
  · rfl
  · rfl
theorem form_sh (hA : Signs A) (hl : Signs l) (i : Nat) : formT (A ++ l) (A.length + i) = shO A.length (formT l i) := by
  unfold formT
  rw [pk_sh, iri_sh, Nat.add_assoc, pk_sh, Nat.add_assoc, word_sh, quoted_sh hA hl]
  split
  · rfl
  · split
    · split
      · rfl
      · rfl
    · split
      · cases quotedV l i with
        | mk o j => cases o with
          | none => rfl
          | some t =>
            unfold shO
            dsimp only
            rw [pk_sh, Nat.add_assoc, pk_sh, Nat.add_assoc, iri_sh, word_sh]
            split
            · rfl
            · split
              · rfl
              · rfl
      · rfl
theorem read_sh (G : Tm → Bool) (hA : Signs A) (hl : Signs l) (i : Nat) : readT G (A ++ l) (A.length + i) = shE A.length (readT G l i) := by
  unfold readT
  rw [form_sh hA hl]
  cases formT l i with
  | mk o j => cases o with
    | none => rfl
    | some X =>
      unfold shO
      dsimp only
      split
      · rfl
      · rfl
theorem gap_sh (A l : List Int) (i : Nat) : gapT (A ++ l) (A.length + i) = A.length + gapT l i := by unfold gapT; rw [twN_sh]; omega
theorem note_sh (A l : List Int) (i : Nat) : noteT (A ++ l) (A.length + i) = A.length + noteT l i := by
  unfold noteT
  rw [gap_sh, pk_sh, twN_sh]
  split
  · omega
  · rfl
theorem over_sh (A l : List Int) (i : Nat) : overT (A ++ l) (A.length + i) = (A.length + (overT l i).1, (overT l i).2) := by
  unfold overT
  rw [note_sh, Nat.add_assoc, pk_sh, pk_sh, Nat.add_assoc]
  have e : decide ((A ++ l).length ≤ A.length + noteT l i) = decide (l.length ≤ noteT l i) := by
    rw [List.length_append]
    exact decide_eq_decide.2 (by omega)
  rw [e]
  split
  · rfl
  · split
    · rfl
    · rfl
theorem place_sh (G may : Tm → Bool) (hA : Signs A) (hl : Signs l) (i : Nat) : placeT G may (A ++ l) (A.length + i) = shE A.length (placeT G may l i) := by
  unfold placeT
  rw [read_sh G hA hl]
  cases readT G l i with
  | mk o r =>
    obtain ⟨j, c⟩ := r
    cases o with
    | none => rfl
    | some X =>
      unfold shE
      dsimp only
      rw [gap_sh]
      split
      · rfl
      · rfl
theorem triple_sh (G : Tm → Bool) (hA : Signs A) (hl : Signs l) (i : Nat) : tripleT G (A ++ l) (A.length + i) = shE A.length (tripleT G l i) := by
  unfold tripleT
  rw [place_sh G maySub hA hl]
  cases placeT G maySub l i with
  | mk o r =>
    obtain ⟨j, c⟩ := r
    cases o with
    | none => rfl
    | some X =>
      unfold shE
      dsimp only
      rw [place_sh G mayPrd hA hl]
      cases placeT G mayPrd l j with
      | mk o r =>
        obtain ⟨j2, c2⟩ := r
        cases o with
        | none => rfl
        | some Y =>
          unfold shE
          dsimp only
          rw [place_sh G mayAny hA hl]
          cases placeT G mayAny l j2 with
          | mk o r =>
            obtain ⟨j3, c3⟩ := r
            cases o with
            | none => rfl
            | some Z =>
              unfold shE
              dsimp only
              rw [pk_sh]
              split
              · rfl
              · rfl
/-- a parse behind other signs, with triples ahead -/
def shP (k : Nat) (a : List Tri) (r : List Tri × Nat × Int) : List Tri × Nat × Int := if r.2.2 = 0 then (a ++ r.1, 0, 0) else ([], k + r.2.1, r.2.2)
theorem place_code {G may : Tm → Bool} {l : List Int} {i j : Nat} {c : Int} (h : placeT G may l i = (none, j, c)) : c ≠ 0 := by
  have hr : ∀ i j c, readT G l i = (none, j, c) → c ≠ 0 := by
    intro i j c h
    unfold readT at h
    split at h
    · injection h with _ h; injection h with _ h; omega
    · split at h
      · injection h with h _; cases h
      · injection h with _ h; injection h with _ h; omega
  unfold placeT at h
  split at h
  · rename_i q c' hq
    injection h with _ h
    injection h with h1 h2
    rw [← h2]
    exact hr _ _ _ hq
  · split at h
    · injection h with h _; cases h
    · injection h with _ h; injection h with _ h; omega
theorem triple_code {G : Tm → Bool} {l : List Int} {i j : Nat} {c : Int} (h : tripleT G l i = (none, j, c)) : c ≠ 0 := by
  unfold tripleT at h
  split at h
  · rename_i q c' hq
    injection h with _ h
    injection h with h1 h2
    rw [← h2]
    exact place_code hq
  · split at h
    · rename_i q c' hq
      injection h with _ h
      injection h with h1 h2
      rw [← h2]
      exact place_code hq
    · split at h
      · rename_i q c' hq
        injection h with _ h
        injection h with h1 h2
        rw [← h2]
        exact place_code hq
      · split at h
        · injection h with h _; cases h
        · injection h with _ h; injection h with _ h; omega
theorem parse_sh (G : Tm → Bool) (hA : Signs A) (hl : Signs l) (a : List Tri) : ∀ (f i : Nat) (acc : List Tri), parseGo G (A ++ l) f (A.length + i) (a ++ acc) = shP A.length a (parseGo G l f i acc)
  | 0, i, acc => rfl
  | f + 1, i, acc => by
    have e : ((A ++ l).length ≤ A.length + i) = (l.length ≤ i) := by rw [List.length_append]; exact propext ⟨fun h => by omega, fun h => by omega⟩
    unfold parseGo
    rw [over_sh]
    by_cases hq : l.length ≤ i
    · rw [if_pos hq, if_pos (e ▸ hq)]; rfl
    · rw [if_neg hq, if_neg (by rw [e]; exact hq)]
      cases overT l i with
      | mk j b =>
        cases b with
        | true => exact parse_sh G hA hl a f j acc
        | false =>
          dsimp only
          rw [triple_sh G hA hl]
          cases ht : tripleT G l j with
          | mk o r =>
            obtain ⟨k, c⟩ := r
            cases o with
            | none =>
              unfold shE shP
              dsimp only
              rw [if_neg (triple_code ht)]
            | some t =>
              unfold shE
              dsimp only
              rw [over_sh]
              cases overT l k with
              | mk n b =>
                cases b with
                | true =>
                  dsimp only
                  rw [List.append_assoc]
                  exact parse_sh G hA hl a f n _
                | false => rfl
end
end Go.Proofs.YtbchkhjkajagfaaGreatDoor
