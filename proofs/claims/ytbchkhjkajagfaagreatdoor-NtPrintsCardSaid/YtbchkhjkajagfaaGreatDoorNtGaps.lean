/- Plain law: blank lines, notes, and blanks ahead of lines change nothing of the triples that are parsed. -/
import Derived.Test.YtbchkhjkajagfaaGreatDoorNtMore
namespace Go.Proofs.YtbchkhjkajagfaaGreatDoor
open Go Go.RowKit
set_option linter.unusedVariables false
set_option linter.unusedSimpArgs false
variable {L T b nt : List Int} {i : Nat} {c : Int}
theorem twl_end {C : Int → Bool} : ∀ (m : List Int), (∀ n ∈ m, C n = true) → m.takeWhile C = m
  | [], _ => rfl
  | a :: m, h => by rw [List.takeWhile_cons, h a List.mem_cons_self, if_pos rfl, twl_end m (fun n hn => h n (List.mem_cons_of_mem _ hn))]
theorem gap_all (hb : ∀ n ∈ b, blankC n = true) (hc : blankC c = false) (h : L.drop i = b ++ c :: T) : gapT L i = i + b.length := by
  unfold gapT twN
  rw [h, tw_all b T c hb hc]
theorem gap_end (hb : ∀ n ∈ b, blankC n = true) (h : L.drop i = b) : gapT L i = i + b.length := by
  unfold gapT twN
  rw [h, twl_end b hb]
theorem note_no (hb : ∀ n ∈ b, blankC n = true) (hc : blankC c = false) (h35 : c ≠ 35) (h : L.drop i = b ++ c :: T) : noteT L i = i + b.length := by
  unfold noteT
  rw [gap_all hb hc h, (pk_at (drop_on h)).1, if_neg h35]
theorem note_yes (hb : ∀ n ∈ b, blankC n = true) (hn : ∀ n ∈ nt, noteC n = true) (h : L.drop i = b ++ 35 :: (nt ++ 10 :: T)) : noteT L i = i + b.length + 1 + nt.length := by
  have h2 := drop_on h
  unfold noteT
  rw [gap_all hb rfl h, (pk_at h2).1, if_pos rfl]
  have e : (L.drop (i + b.length)).takeWhile noteC = 35 :: nt := by
    rw [h2]
    exact tw_all (35 :: nt) T 10 (fun n hn' => by
      rcases List.mem_cons.1 hn' with rfl | hn'
      · rfl
      · exact hn n hn') rfl
  unfold twN
  rw [e, List.length_cons]
  omega
theorem note_fin (hb : ∀ n ∈ b, blankC n = true) (hn : ∀ n ∈ nt, noteC n = true) (h : L.drop i = b ++ 35 :: nt) : noteT L i = i + b.length + 1 + nt.length := by
  have h2 := drop_on h
  unfold noteT
  rw [gap_all hb rfl h, (pk_at h2).1, if_pos rfl]
  have e : (L.drop (i + b.length)).takeWhile noteC = 35 :: nt := by
    rw [h2]
    exact twl_end (35 :: nt) (fun n hn' => by
      rcases List.mem_cons.1 hn' with rfl | hn'
      · rfl
      · exact hn n hn')
  unfold twN
  rw [e, List.length_cons]
  omega
theorem over_nl (hb : ∀ n ∈ b, blankC n = true) (h : L.drop i = b ++ 10 :: T) : overT L i = (i + b.length + 1, true) := by
  unfold overT
  rw [note_no hb rfl (by decide) h, (pk_at (drop_on h)).1, if_neg (by omega), if_pos rfl]
theorem over_crlf (hb : ∀ n ∈ b, blankC n = true) (h : L.drop i = b ++ 13 :: 10 :: T) : overT L i = (i + b.length + 2, true) := by
  obtain ⟨e1, h2⟩ := pk_at (drop_on h)
  unfold overT
  rw [note_no hb rfl (by decide) h, if_pos ⟨e1, (pk_at h2).1⟩]
theorem over_note (hb : ∀ n ∈ b, blankC n = true) (hn : ∀ n ∈ nt, noteC n = true) (h : L.drop i = b ++ 35 :: (nt ++ 10 :: T)) : overT L i = (i + b.length + 1 + nt.length + 1, true) := by
  have h2 : L.drop (i + b.length + 1 + nt.length) = 10 :: T := drop_on (pk_at (drop_on h)).2
  unfold overT
  rw [note_yes hb hn h, (pk_at h2).1, if_neg (by omega), if_pos rfl]
theorem over_line0 (hb : ∀ n ∈ b, blankC n = true) (hc : c = 95 ∨ c = 60 ∨ c = 34) (h : L.drop i = b ++ c :: T) : overT L i = (i + b.length, false) := by
  have h2 := drop_on h
  obtain ⟨hi, _, _⟩ := dcons h2
  unfold overT
  rw [note_no hb (head_blank hc) (by omega) h, (pk_at h2).1, if_neg (by omega), if_neg (by omega), decide_eq_false (by omega)]
theorem drop_len (h : L.drop i = b) (h0 : b ≠ []) : L.length = i + b.length := by
  have := congrArg List.length h
  rw [List.length_drop] at this
  have := List.length_pos_iff.2 h0
  omega
theorem over_fin (hn : noteT L i = L.length) : overT L i = (L.length, true) := by
  unfold overT
  rw [hn, pk_no (Nat.le_refl _), if_neg (by omega), if_neg (by decide), decide_eq_true (Nat.le_refl _)]
theorem parse_skip {G : Tm → Bool} {f j : Nat} {acc : List Tri} (hi : i < L.length) (h : overT L i = (j, true)) : parseGo G L (f + 1) i acc = parseGo G L f j acc := by
  conv => lhs; unfold parseGo
  rw [if_neg (by omega), h]
theorem parse_go {G : Tm → Bool} {f j : Nat} {acc : List Tri} {t : Tri} (ht : GoodTri G t) (hi : i < L.length) (h : overT L i = (j, false)) (h2 : L.drop j = lineS t ++ T) : parseGo G L (f + 1) i acc = parseGo G L f (j + (lineS t).length) (acc ++ [t]) := by
  unfold lineS at h2 ⊢
  rw [List.append_assoc] at h2
  conv => lhs; unfold parseGo
  rw [if_neg (by omega), h]
  dsimp only
  rw [triple_back ht h2]
  dsimp only
  rw [over_line10 (T := T) (drop_on h2)]
  dsimp only
  rw [List.length_append]
  rfl
/-- what may stand ahead of a line -/
def gapS : Nat → List Int
  | 1 => [10]
  | 2 => [32, 9]
  | 3 => [35, 32, 60, 117, 58, 97, 62, 10]
  | 4 => [32, 13, 10]
  | 5 => [10, 10, 32, 32, 35, 10, 9]
  | 6 => [35, 13, 10]
  | _ => []
/-- what may stand at the end -/
def endS : Nat → List Int
  | 1 => [32, 35, 32, 101, 110, 100]
  | 2 => [9]
  | _ => []
def gapLine (x : Nat × Tri) : List Int := gapS x.1 ++ lineS x.2
theorem lt_drop {x : Int} (h : L.drop i = x :: T) : i < L.length := (dcons h).1
theorem parse_gap {G : Tm → Bool} {k : Nat} {t : Tri} (ht : GoodTri G t) (h : L.drop i = gapLine (k, t) ++ T) : ∃ n, n ≤ (gapLine (k, t)).length ∧ ∀ f acc, parseGo G L (f + n) i acc = parseGo G L f (i + (gapLine (k, t)).length) (acc ++ [t]) := by
  obtain ⟨c, m, e, hc⟩ := triS_head ht
  have hl : lineS t = c :: (m ++ [10]) := by unfold lineS; rw [e]; rfl
  have hp := line_pos t
  have nob : ∀ n ∈ ([] : List Int), blankC n = true := fun n hn => by cases hn
  have nobn : ∀ n ∈ ([] : List Int), noteC n = true := fun n hn => by cases hn
  unfold gapLine at h ⊢
  dsimp only at h ⊢
  rcases (by omega : k = 1 ∨ k = 2 ∨ k = 3 ∨ k = 4 ∨ k = 5 ∨ k = 6 ∨ (k = 0 ∨ 7 ≤ k)) with rfl | rfl | rfl | rfl | rfl | rfl | hk
  · have h : L.drop i = 10 :: (lineS t ++ T) := h
    have h1 := (pk_at h).2
    refine ⟨2, by simp [gapS]; omega, fun f acc => ?_⟩
    rw [parse_skip (f := f + 1) (lt_drop h) (over_nl (b := []) nob h)]
    have h2 : L.drop (i + 1) = [] ++ c :: ((m ++ [10]) ++ T) := by rw [h1, hl]; rfl
    rw [show i + ([] : List Int).length + 1 = i + 1 from rfl, parse_go ht (lt_drop h2) (over_line0 nob hc h2) h1]
    simp [gapS]; congr 1; omega
  · have h : L.drop i = [32, 9] ++ (lineS t ++ T) := h
    have h1 : L.drop (i + 2) = lineS t ++ T := drop_on h
    refine ⟨1, by simp [gapS], fun f acc => ?_⟩
    have h2 : L.drop i = [32, 9] ++ c :: ((m ++ [10]) ++ T) := by rw [h, hl]; rfl
    rw [parse_go ht (lt_drop (x := 32) h2) (over_line0 (by decide) hc h2) h1]
    simp [gapS]; congr 1; omega
  · have h : L.drop i = [] ++ 35 :: ([32, 60, 117, 58, 97, 62] ++ 10 :: (lineS t ++ T)) := h
    have h1 : L.drop (i + 8) = lineS t ++ T := drop_on (A := [35, 32, 60, 117, 58, 97, 62, 10]) h
    refine ⟨2, by simp [gapS], fun f acc => ?_⟩
    rw [parse_skip (f := f + 1) (lt_drop (x := 35) h) (over_note nob (by decide) h)]
    have h2 : L.drop (i + 8) = [] ++ c :: ((m ++ [10]) ++ T) := by rw [h1, hl]; rfl
    rw [show i + ([] : List Int).length + 1 + ([32, 60, 117, 58, 97, 62] : List Int).length + 1 = i + 8 from rfl, parse_go ht (lt_drop h2) (over_line0 nob hc h2) h1]
    simp [gapS]; congr 1; omega
  · have h : L.drop i = [32] ++ 13 :: 10 :: (lineS t ++ T) := h
    have h1 : L.drop (i + 3) = lineS t ++ T := drop_on (A := [32, 13, 10]) h
    refine ⟨2, by simp [gapS], fun f acc => ?_⟩
    rw [parse_skip (f := f + 1) (lt_drop (x := 32) h) (over_crlf (by decide) h)]
    have h2 : L.drop (i + 3) = [] ++ c :: ((m ++ [10]) ++ T) := by rw [h1, hl]; rfl
    rw [show i + ([32] : List Int).length + 2 = i + 3 from rfl, parse_go ht (lt_drop h2) (over_line0 nob hc h2) h1]
    simp [gapS]; congr 1; omega
  · have h : L.drop i = [] ++ 10 :: 10 :: ([32, 32] ++ 35 :: ([] ++ 10 :: (9 :: (lineS t ++ T)))) := h
    have h1 : L.drop (i + 1) = [] ++ 10 :: ([32, 32] ++ 35 :: ([] ++ 10 :: (9 :: (lineS t ++ T)))) := (pk_at h).2
    have h2 : L.drop (i + 2) = [32, 32] ++ 35 :: ([] ++ 10 :: (9 :: (lineS t ++ T))) := (pk_at h1).2
    have h3 : L.drop (i + 6) = [9] ++ (lineS t ++ T) := drop_on (A := [10, 10, 32, 32, 35, 10]) h
    have h4 : L.drop (i + 7) = lineS t ++ T := (pk_at h3).2
    have h5 : L.drop (i + 6) = [9] ++ c :: ((m ++ [10]) ++ T) := by rw [h3, hl]; rfl
    refine ⟨4, by simp [gapS], fun f acc => ?_⟩
    rw [parse_skip (f := f + 3) (lt_drop (x := 10) h) (over_nl nob h), show i + ([] : List Int).length + 1 = i + 1 from rfl,
      parse_skip (f := f + 2) (lt_drop (x := 10) h1) (over_nl nob h1), show i + 1 + ([] : List Int).length + 1 = i + 2 from rfl,
      parse_skip (f := f + 1) (lt_drop (x := 32) h2) (over_note (by decide) nobn h2), show i + 2 + ([32, 32] : List Int).length + 1 + ([] : List Int).length + 1 = i + 6 from rfl,
      parse_go ht (lt_drop (x := 9) h3) (over_line0 (by decide) hc h5) h4]
    simp [gapS]; congr 1; omega
  · have h : L.drop i = [] ++ 35 :: ([13] ++ 10 :: (lineS t ++ T)) := h
    have h1 : L.drop (i + 3) = lineS t ++ T := drop_on (A := [35, 13, 10]) h
    refine ⟨2, by simp [gapS], fun f acc => ?_⟩
    rw [parse_skip (f := f + 1) (lt_drop (x := 35) h) (over_note nob (by decide) h)]
    have h2 : L.drop (i + 3) = [] ++ c :: ((m ++ [10]) ++ T) := by rw [h1, hl]; rfl
    rw [show i + ([] : List Int).length + 1 + ([13] : List Int).length + 1 = i + 3 from rfl, parse_go ht (lt_drop h2) (over_line0 nob hc h2) h1]
    simp [gapS]; congr 1; omega
  · have hg : gapS k = [] := by
      rcases hk with rfl | hk
      · rfl
      · unfold gapS; split <;> (first | omega | rfl)
    rw [hg, List.nil_append] at h ⊢
    refine ⟨1, hp, fun f acc => ?_⟩
    exact parse_line ht h
theorem parse_gaps {G : Tm → Bool} : ∀ (xs : List (Nat × Tri)) (i : Nat), (∀ x ∈ xs, GoodTri G x.2) → L.drop i = xs.flatMap gapLine ++ T → ∃ n, n ≤ (xs.flatMap gapLine).length ∧ ∀ f acc, parseGo G L (f + n) i acc = parseGo G L f (i + (xs.flatMap gapLine).length) (acc ++ xs.map (·.2))
  | [], i, _, _ => ⟨0, by simp, fun f acc => by simp⟩
  | x :: xs, i, ht, h => by
    rw [List.flatMap_cons, List.append_assoc] at h
    obtain ⟨n1, k1, g1⟩ := parse_gap (G := G) (k := x.1) (t := x.2) (ht x List.mem_cons_self) h
    obtain ⟨n2, k2, g2⟩ := parse_gaps xs (i + (gapLine x).length) (fun y hy => ht y (List.mem_cons_of_mem _ hy)) (drop_on h)
    refine ⟨n2 + n1, by rw [List.flatMap_cons, List.length_append]; have k1 : n1 ≤ (gapLine x).length := k1; omega, fun f acc => ?_⟩
    rw [← Nat.add_assoc, g1]
    show parseGo G L (f + n2) (i + (gapLine x).length) (acc ++ [x.2]) = _
    rw [g2, List.flatMap_cons, List.length_append, List.map_cons, List.append_assoc]
    congr 1
    omega
/-- lines with blanks, notes and blank lines ahead are parsed as those lines -/
theorem blanks_back {G : Tm → Bool} (xs : List (Nat × Tri)) (e : Nat) (h : ∀ x ∈ xs, GoodTri G x.2) : parseT G (xs.flatMap gapLine ++ endS e) = (xs.map (·.2), 0, 0) := by
  obtain ⟨n, hn, hg⟩ := parse_gaps (L := xs.flatMap gapLine ++ endS e) (T := endS e) xs 0 h (by simp)
  have hll : (xs.flatMap gapLine ++ endS e).length = (xs.flatMap gapLine).length + (endS e).length := List.length_append
  have hd : (xs.flatMap gapLine ++ endS e).drop (0 + (xs.flatMap gapLine).length) = endS e := drop_on (by simp)
  unfold parseT
  obtain ⟨f, hf⟩ : ∃ f, (xs.flatMap gapLine ++ endS e).length + 1 = (f + 1) + n := ⟨(xs.flatMap gapLine ++ endS e).length - n, by omega⟩
  rw [hf, hg, List.nil_append]
  by_cases h0 : endS e = []
  · rw [parse_end (by rw [hll, h0]; simp)]
  · have hz := drop_len hd h0
    have hlt : 0 + (xs.flatMap gapLine).length < (xs.flatMap gapLine ++ endS e).length := by
      have := List.length_pos_iff.2 h0
      omega
    have ho : overT (xs.flatMap gapLine ++ endS e) (0 + (xs.flatMap gapLine).length) = ((xs.flatMap gapLine ++ endS e).length, true) := by
      refine over_fin ?_
      rw [hz]
      rcases (by omega : e = 1 ∨ e = 2 ∨ (e ≠ 1 ∧ e ≠ 2)) with rfl | rfl | ⟨h1, h2⟩
      · rw [note_fin (b := [32]) (nt := [32, 101, 110, 100]) (by decide) (by decide) hd]; rfl
      · have hd : (xs.flatMap gapLine ++ endS 2).drop (0 + (xs.flatMap gapLine).length) = [9] := hd
        unfold noteT
        rw [gap_end (b := [9]) (by decide) hd, pk_no (by rw [hz]; exact Nat.le_refl _), if_neg (by decide)]
        rfl
      · exfalso
        refine h0 ?_
        unfold endS
        split <;> (first | omega | rfl)
    rw [parse_skip hlt ho, parse_end (Nat.le_refl _)]
end Go.Proofs.YtbchkhjkajagfaaGreatDoor
