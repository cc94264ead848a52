/- What is printed is read back: the plain laws of package nt's texts; what a good term's signs are. -/
import Derived.Test.YtbchkhjkajagfaaDoorScBack
import Derived.Test.YtbchkhjkajagfaaDoorPkD
import Derived.Test.YtbchkhjkajagfaaDoorNtGood
import Derived.Test.YtbchkhjkajagfaaDoorPkF
namespace Go.Proofs.YtbchkhjkajagfaaDoor
open Go Go.RowKit
set_option linter.unusedVariables false
set_option linter.unusedSimpArgs false
theorem int_map : ∀ l : List Int, (l.map (Value.int .i32)).map intOf = l
  | [] => rfl
  | a :: l => by rw [List.map_cons, List.map_cons, int_map l]; rfl
/-- the signs of a text -/
def sg (s : ByteArray) : List Int := (Conv.runesFrom s s.size 0 #[]).toList.map intOf
theorem sg_eq {s : ByteArray} {l : List Int} (h : Read s.data.toList l []) : sg s = l := by
  unfold sg
  rw [runes_all h]
  exact int_map l
theorem sg_read {s : ByteArray} {l : List Int} (h : Read s.data.toList l []) : Read s.data.toList (sg s) [] := by rw [sg_eq h]; exact h
/-- the signs of a term's text -/
def tmS : Tm → List Int
  | .blank s => 95 :: 58 :: sg s
  | .iri s => 60 :: (sg s ++ [62])
  | .lit s t g => qsigns (sg s) ++ (if g.data.toList = [] then (if t.data.toList = ntString.data.toList then [] else 94 :: 94 :: 60 :: (sg t ++ [62])) else 64 :: sg g)
  | _ => []
/-- the signs of a triple's text, of lines -/
def triS (t : Tri) : List Int := tmS t.s ++ 32 :: (tmS t.p ++ 32 :: (tmS t.o ++ [32, 46]))
def lineS (t : Tri) : List Int := triS t ++ [10]
def linesS (ts : List Tri) : List Int := ts.flatMap lineS
/-- a term all of whose texts are texts, of signs that may stand there -/
def GoodS : Tm → Prop
  | .blank s => Read s.data.toList (sg s) [] ∧ ∀ n ∈ sg s, wordC true n = true
  | .iri s => Read s.data.toList (sg s) [] ∧ ∀ n ∈ sg s, okR n = true
  | .lit s t g => Read s.data.toList (sg s) [] ∧ Read t.data.toList (sg t) [] ∧ (∀ n ∈ sg t, okR n = true) ∧ ((g = ⟨#[]⟩ ∧ t ≠ ntLang) ∨ (g.data.toList ≠ [] ∧ t = ntLang ∧ Read g.data.toList (sg g) [] ∧ ∀ n ∈ sg g, wordC false n = true))
  | _ => False
theorem class_of_low {n : Int} (h : lowI n = true) : classV n = 1 := by
  unfold lowI at h
  rw [decide_eq_true_eq] at h
  unfold classV SignP
  rw [if_neg (by omega), if_neg (by omega), if_pos (by omega)]
theorem class_of_dig {n : Int} (h : digI n = true) : classV n = 2 := by
  unfold digI at h
  rw [decide_eq_true_eq] at h
  unfold classV SignP
  rw [if_neg (by omega), if_neg (by omega), if_neg (by omega), if_pos (by omega)]
theorem word_low {u : Bool} {n : Int} (h : (lowI n || digI n) = true) : wordC u n = true ∧ 0 ≤ n ∧ n < 128 := by
  rcases Bool.or_eq_true _ _ ▸ h with h | h
  · refine ⟨by unfold wordC; rw [class_of_low h]; rfl, ?_⟩
    unfold lowI at h; rw [decide_eq_true_eq] at h; omega
  · refine ⟨by unfold wordC; rw [class_of_dig h]; rfl, ?_⟩
    unfold digI at h; rw [decide_eq_true_eq] at h; omega
theorem okL_word {i : Nat} {c : UInt8} (h : okL i c = true) : wordC true (bI c) = true ∧ 0 ≤ bI c ∧ bI c < 128 := by
  unfold okL at h
  rcases Bool.or_eq_true _ _ ▸ h with h | h
  · exact word_low h
  · rw [Bool.and_eq_true] at h
    rcases Bool.or_eq_true _ _ ▸ h.2 with h | h
    · rw [decide_eq_true_eq] at h; rw [h]; decide
    · rw [decide_eq_true_eq] at h; rw [h]; decide
theorem labA_word : ∀ (l : List UInt8) (i : Nat), labA i l = true → ∀ c ∈ l, wordC true (bI c) = true ∧ 0 ≤ bI c ∧ bI c < 128
  | [], _, _ => fun c hc => by cases hc
  | a :: r, i, h => by
    unfold labA at h
    rw [Bool.and_eq_true] at h
    intro c hc
    rcases List.mem_cons.1 hc with rfl | hc
    · exact okL_word h.1
    · exact labA_word r _ h.2 c hc
theorem langS_word : ∀ (l : List UInt8) (p : Bool) (k : Nat), langS p k l = true → ∀ c ∈ l, wordC false (bI c) = true ∧ 0 ≤ bI c ∧ bI c < 128
  | [], _, _, _ => fun c hc => by cases hc
  | a :: r, p, k, h => by
    unfold langS at h
    intro c hc
    by_cases h45 : bI a = 45
    · rw [if_pos h45] at h
      split at h
      · cases h
      · rcases List.mem_cons.1 hc with rfl | hc
        · rw [h45]; decide
        · exact langS_word r _ _ h c hc
    · rw [if_neg h45] at h
      split at h
      · rename_i ho
        split at h
        · cases h
        · rcases List.mem_cons.1 hc with rfl | hc
          · refine word_low ?_
            unfold okP at ho
            rcases Bool.or_eq_true _ _ ▸ ho with ho | ho
            · rw [ho]; rfl
            · rw [Bool.and_eq_true] at ho; rw [ho.2]; simp
          · exact langS_word r _ _ h c hc
      · cases h
theorem textB_bI : ∀ (bs : List UInt8), (∀ c ∈ bs, 0 ≤ bI c ∧ bI c < 128) → textB (bs.map bI) = bs
  | [], _ => rfl
  | c :: r, h => by
    have hc := h c List.mem_cons_self
    rw [List.map_cons, textB_cons, textB_bI r (fun x hx => h x (List.mem_cons_of_mem _ hx)), enc_ascii hc.1 (by omega)]
    have : (bI c).toNat.toUInt8 = c := by unfold bI; simp
    rw [this]
    rfl
theorem read_bI {bs : List UInt8} (h : ∀ c ∈ bs, 0 ≤ bI c ∧ bI c < 128) : Read bs (bs.map bI) [] := by
  refine ⟨by rw [List.append_nil, textB_bI bs h], fun n hn => ?_, noSign_nil⟩
  obtain ⟨c, hc, rfl⟩ := List.mem_map.1 hn
  exact .inl ⟨(h c hc).1, by have := (h c hc).2; omega⟩
theorem ba_eq {a b : ByteArray} (h : a.data.toList = b.data.toList) : a = b := by
  obtain ⟨a⟩ := a
  obtain ⟨b⟩ := b
  exact congrArg _ (Array.toList_inj.1 h)
theorem iri_signs {s : ByteArray} {l : List Int} {r : List UInt8} (hr : Read s.data.toList l r) (h : iriV s l r = true) : Read s.data.toList (sg s) [] ∧ ∀ n ∈ sg s, okR n = true := by
  unfold iriV at h
  simp only [Bool.and_eq_true, List.isEmpty_iff, List.all_eq_true] at h
  obtain ⟨_, _, rfl, h⟩ := h
  rw [sg_eq hr]
  exact ⟨hr, h⟩
theorem good_signs {G : Tm → Bool} (hG : GoodFn G) {X : Tm} (hz : Small X) (h : G X = true) : KeyT X ∧ GoodS X := by
  obtain ⟨l1, r1, h1⟩ := read_some (text0 X).data.toList
  obtain ⟨l2, r2, h2⟩ := read_some (text1 X).data.toList
  refine ⟨(hG X hz).2.2.1 h, ?_⟩
  rw [(hG X hz).2.2.2 l1 r1 l2 r2 h1 h2] at h
  cases X with
  | blank s =>
    have h : labV s.data.toList = true := h
    unfold labV at h
    simp only [Bool.and_eq_true] at h
    have hw := labA_word _ _ h.2.2
    have hr := read_bI (fun c hc => (hw c hc).2)
    refine ⟨sg_read hr, fun n hn => ?_⟩
    rw [sg_eq hr] at hn
    obtain ⟨c, hc, rfl⟩ := List.mem_map.1 hn
    exact (hw c hc).1
  | iri s => exact iri_signs h1 h
  | lit s t g =>
    have h : litG s r1 t l2 r2 g = true := h
    unfold litG at h
    simp only [Bool.and_eq_true, List.isEmpty_iff, beq_iff_eq] at h
    obtain ⟨_, rfl, hl, hi, hg⟩ := h
    have hi2 := iri_signs h2 hi
    refine ⟨sg_read h1, hi2.1, hi2.2, ?_⟩
    by_cases he : g.toList.isEmpty = true
    · refine .inl ⟨empty_of he, fun e => ?_⟩
      rw [he, e] at hl
      revert hl
      rw [Lib.toList_data]
      decide
    · have he' : g.toList.isEmpty = false := by simpa using he
      rw [he'] at hl hg
      have hl2 : t.toList = xLangL := by simpa using hl
      have hg2 : langV g.data.toList = true := by simpa using hg
      unfold langV at hg2
      rw [Bool.and_eq_true] at hg2
      have hw := langS_word _ _ _ hg2.2
      have hr := read_bI (fun c hc => (hw c hc).2)
      refine .inr ⟨fun e => ?_, ba_eq ?_, sg_read hr, fun n hn => ?_⟩
      · rw [Lib.toList_data, e] at he'; cases he'
      · rw [← Lib.toList_data, hl2]; rfl
      · rw [sg_eq hr] at hn
        obtain ⟨c, hc, rfl⟩ := List.mem_map.1 hn
        exact (hw c hc).1
  | odd n => cases h
  | none => cases h
/-! places in a list -/
theorem pk_at {L T : List Int} {i : Nat} {x : Int} (h : L.drop i = x :: T) : pk L i = x ∧ L.drop (i + 1) = T := by
  obtain ⟨hi, h1, h2⟩ := dcons h
  exact ⟨by rw [pk_yes hi, h1], h2⟩
theorem tw_all {C : Int → Bool} : ∀ (m T : List Int) (x : Int), (∀ n ∈ m, C n = true) → C x = false → (m ++ x :: T).takeWhile C = m
  | [], T, x, _, hx => by rw [List.nil_append, List.takeWhile_cons, hx]; rfl
  | a :: m, T, x, h, hx => by
    rw [List.cons_append, List.takeWhile_cons, h a List.mem_cons_self, if_pos rfl, tw_all m T x (fun n hn => h n (List.mem_cons_of_mem _ hn)) hx]
theorem drop_on {L A T : List Int} {i : Nat} (h : L.drop i = A ++ T) : L.drop (i + A.length) = T := by rw [← List.drop_drop, h, List.drop_left]
theorem word_back {u : Bool} {L m T : List Int} {i : Nat} (hm : ∀ n ∈ m, wordC u n = true) (h : L.drop i = m ++ 32 :: T) : wordT L i u = (m, i + m.length) := by
  have hx : wordC u 32 = false := by cases u <;> decide
  unfold wordT twN
  rw [h, tw_all m T 32 hm hx]
theorem okR_facts {n : Int} (hs : SignP n) (h : okR n = true) : n ≠ -1 ∧ n ≠ 10 ∧ n ≠ 62 ∧ n ≠ 92 ∧ n ≠ 60 := by
  obtain ⟨h0, h4, hf⟩ := okR_yes h
  refine ⟨?_, ?_, ?_, ?_, ?_⟩
  · rintro rfl; exact absurd hs (by decide)
  · rintro rfl; exact h0 (by decide)
  · rintro rfl; revert hf; decide
  · rintro rfl; revert hf; decide
  · rintro rfl; revert hf; decide
theorem iriGo_all (L T : List Int) : ∀ (l : List Int) (f i : Nat) (acc : List Int), (∀ n ∈ l, SignP n) → (∀ n ∈ l, okR n = true) → L.drop i = l ++ 62 :: T → l.length + 1 ≤ f → iriGo L f i acc = (some (acc ++ l), i + l.length + 1)
  | [], f, i, acc, _, _, h, hf => by
    obtain ⟨f, rfl⟩ : ∃ f', f = f' + 1 := ⟨f - 1, by simp at hf; omega⟩
    unfold iriGo
    rw [(pk_at h).1, if_neg (by decide), if_pos rfl]
    simp
  | n :: l, f, i, acc, hs, ho, h, hf => by
    obtain ⟨f, rfl⟩ : ∃ f', f = f' + 1 := ⟨f - 1, by simp at hf; omega⟩
    obtain ⟨e1, e2⟩ := pk_at (T := l ++ 62 :: T) h
    obtain ⟨a1, a2, a3, a4, _⟩ := okR_facts (hs n List.mem_cons_self) (ho n List.mem_cons_self)
    unfold iriGo
    rw [e1, if_neg (by omega), if_neg a3, if_neg a4, iriGo_all L T l f (i + 1) _ (fun x hx => hs x (List.mem_cons_of_mem _ hx)) (fun x hx => ho x (List.mem_cons_of_mem _ hx)) e2 (by simp at hf; omega)]
    simp
    omega
theorem iri_back {L T l : List Int} {i : Nat} (hs : ∀ n ∈ l, SignP n) (ho : ∀ n ∈ l, okR n = true) (h : L.drop i = 60 :: (l ++ 62 :: T)) : iriT L i = (some l, i + (l.length + 2)) := by
  obtain ⟨e1, e2⟩ := pk_at h
  have hlen := congrArg List.length h
  rw [List.length_drop, List.length_cons, List.length_append, List.length_cons] at hlen
  unfold iriT
  rw [if_pos e1, iriGo_all L T l _ _ [] hs ho e2 (by omega)]
  simp
  omega
theorem tB_sg {s : ByteArray} (h : Read s.data.toList (sg s) []) : tBytes (sg s) = s := by
  refine ba_eq ?_
  have := h.1
  rw [List.append_nil] at this
  rw [this]
  unfold tBytes
  simp
theorem quoted_at {L T l : List Int} {i : Nat} (hl : ∀ n ∈ l, SignP n) (h : L.drop i = qsigns l ++ T) : quotedV L i = (some l, i + (qsigns l).length) := by
  have hL : L.drop i = 34 :: (l.flatMap qs ++ 34 :: T) := by rw [h]; unfold qsigns qsignsIn; simp
  obtain ⟨_, e2⟩ := pk_at hL
  have hlen := congrArg List.length hL
  rw [List.length_drop, List.length_cons, List.length_append, List.length_cons] at hlen
  have hg := flat_ge l
  unfold quotedV
  rw [hL, if_pos (show List.take 1 (34 :: (List.flatMap qs l ++ 34 :: T)) = [34] from rfl), qgo_all L T l _ _ _ hl e2 (by omega)]
  unfold qsigns qsignsIn
  simp
  omega
theorem tB_nil : tBytes [] = ⟨#[]⟩ := rfl
/-- a good term's text, with a blank behind it, is read as that term -/
theorem form_back {L T : List Int} {i : Nat} {X : Tm} (hX : GoodS X) (h : L.drop i = tmS X ++ 32 :: T) : formT L i = (some X, i + (tmS X).length) := by
  cases X with
  | blank s =>
    obtain ⟨hr, hw⟩ := hX
    unfold tmS at h ⊢
    rw [List.cons_append, List.cons_append] at h
    obtain ⟨e1, h1⟩ := pk_at h
    obtain ⟨e2, h2⟩ := pk_at h1
    unfold formT
    rw [if_neg (by rw [e1]; decide), if_pos e1, if_pos e2, word_back hw h2, tB_sg hr]
    simp
    omega
  | iri s =>
    obtain ⟨hr, hw⟩ := hX
    unfold tmS at h ⊢
    rw [List.cons_append, List.append_assoc] at h
    obtain ⟨e1, h1⟩ := pk_at h
    unfold formT
    rw [if_pos e1, iri_back (T := 32 :: T) hr.2.1 hw h]
    simp only [Option.map_some, tB_sg hr, List.length_cons, List.length_append, List.length_nil]
  | lit s t g =>
    obtain ⟨hr, ht, hto, hg⟩ := hX
    unfold tmS at h ⊢
    rw [List.append_assoc] at h
    have h34 : pk L i = 34 := by
      have : L.drop i = 34 :: ((sg s).flatMap qs ++ [34] ++ ((if g.data.toList = [] then (if t.data.toList = ntString.data.toList then [] else 94 :: 94 :: 60 :: (sg t ++ [62])) else 64 :: sg g) ++ 32 :: T)) := by rw [h]; unfold qsigns qsignsIn; simp
      exact (pk_at this).1
    have h2 := drop_on h
    unfold formT
    rw [if_neg (by rw [h34]; decide), if_neg (by rw [h34]; decide), if_pos h34, quoted_at hr.2.1 h]
    dsimp only
    rcases hg with ⟨rfl, -⟩ | ⟨hne, rfl, hgr, hgw⟩
    · rw [if_pos rfl] at h2 ⊢
      by_cases hst : t.data.toList = ntString.data.toList
      · rw [if_pos hst] at h2 ⊢
        rw [List.nil_append] at h2
        obtain ⟨e1, _⟩ := pk_at h2
        rw [if_neg (by rw [e1]; omega), if_neg (by rw [e1]; omega), tB_sg hr, ba_eq hst]
        simp
      · rw [if_neg hst] at h2 ⊢
        rw [List.cons_append, List.cons_append, List.cons_append, List.append_assoc] at h2
        obtain ⟨e1, h3⟩ := pk_at h2
        obtain ⟨e2, h4⟩ := pk_at h3
        rw [if_pos ⟨e1, e2⟩, iri_back (T := 32 :: T) ht.2.1 hto h4]
        simp only [Option.map_some, tB_sg hr, tB_sg ht, List.length_cons, List.length_append, List.length_nil]
        congr 1
        omega
    · rw [if_neg hne] at h2 ⊢
      rw [List.cons_append] at h2
      obtain ⟨e1, h3⟩ := pk_at h2
      rw [if_neg (by rw [e1]; omega), if_pos e1, word_back hgw h3, tB_sg hr, tB_sg hgr]
      simp only [List.length_cons, List.length_append]
      congr 1
      omega
  | odd n => exact hX.elim
  | none => exact hX.elim
theorem read_back {G : Tm → Bool} {L T : List Int} {i : Nat} {X : Tm} (hX : GoodS X) (hG : G X = true) (h : L.drop i = tmS X ++ 32 :: T) : readT G L i = (some X, i + (tmS X).length, 0) := by
  unfold readT
  rw [form_back hX h]
  dsimp only
  rw [if_pos hG]
/-- a term's text begins with a mark -/
theorem tmS_head {X : Tm} (hX : GoodS X) : ∃ c m, tmS X = c :: m ∧ (c = 95 ∨ c = 60 ∨ c = 34) := by
  cases X with
  | blank s => exact ⟨95, _, rfl, .inl rfl⟩
  | iri s => exact ⟨60, _, rfl, .inr (.inl rfl)⟩
  | lit s t g => exact ⟨34, _, rfl, .inr (.inr rfl)⟩
  | odd n => exact hX.elim
  | none => exact hX.elim
theorem gap_none {L T : List Int} {i : Nat} {c : Int} (hc : blankC c = false) (h : L.drop i = c :: T) : gapT L i = i := by
  unfold gapT twN
  rw [h, List.takeWhile_cons, hc]
  simp
theorem gap_one {L T : List Int} {i : Nat} {c : Int} (hc : blankC c = false) (h : L.drop i = 32 :: c :: T) : gapT L i = i + 1 := by
  unfold gapT twN
  rw [h, List.takeWhile_cons, show blankC 32 = true from rfl, if_pos rfl, List.takeWhile_cons, hc]
  simp
theorem head_blank {c : Int} (h : c = 95 ∨ c = 60 ∨ c = 34) : blankC c = false := by rcases h with rfl | rfl | rfl <;> rfl
theorem place_back {G may : Tm → Bool} {L T : List Int} {i : Nat} {X : Tm} {c : Int} (hX : GoodS X) (hG : G X = true) (hm : may X = true) (hc : blankC c = false) (h : L.drop i = tmS X ++ 32 :: c :: T) : placeT G may L i = (some X, i + (tmS X).length + 1, 0) := by
  unfold placeT
  rw [read_back hX hG h]
  dsimp only
  rw [if_pos hm, gap_one hc (drop_on h)]
/-- a good triple -/
def GoodTri (G : Tm → Bool) (t : Tri) : Prop := (GoodS t.s ∧ G t.s = true ∧ maySub t.s = true) ∧ (GoodS t.p ∧ G t.p = true ∧ mayPrd t.p = true) ∧ GoodS t.o ∧ G t.o = true
theorem triple_back {G : Tm → Bool} {L T : List Int} {i : Nat} {t : Tri} (ht : GoodTri G t) (h : L.drop i = triS t ++ T) : tripleT G L i = (some t, i + (triS t).length, 0) := by
  obtain ⟨⟨h1, g1, m1⟩, ⟨h2, g2, m2⟩, h3, g3⟩ := ht
  unfold triS at h ⊢
  rw [List.append_assoc, List.cons_append, List.append_assoc, List.cons_append, List.append_assoc] at h
  obtain ⟨c2, r2, e2, k2⟩ := tmS_head h2
  obtain ⟨c3, r3, e3, k3⟩ := tmS_head h3
  have q1 := place_back (T := r2 ++ 32 :: (tmS t.o ++ ([32, 46] ++ T))) h1 g1 m1 (head_blank k2) (by rw [h, e2]; rfl)
  have d1 : L.drop (i + (tmS t.s).length + 1) = tmS t.p ++ 32 :: (tmS t.o ++ ([32, 46] ++ T)) := (pk_at (drop_on h)).2
  have q2 := place_back (T := r3 ++ ([32, 46] ++ T)) h2 g2 m2 (head_blank k3) (by rw [d1, e3]; rfl)
  have d2 : L.drop (i + (tmS t.s).length + 1 + (tmS t.p).length + 1) = tmS t.o ++ ([32, 46] ++ T) := (pk_at (drop_on d1)).2
  have q3 := place_back (may := mayAny) (T := T) (c := 46) h3 g3 rfl rfl d2
  have d3 : L.drop (i + (tmS t.s).length + 1 + (tmS t.p).length + 1 + (tmS t.o).length + 1) = 46 :: T := (pk_at (drop_on d2)).2
  unfold tripleT
  rw [q1]
  dsimp only
  rw [q2]
  dsimp only
  rw [q3]
  dsimp only
  rw [if_pos (pk_at d3).1]
  simp only [List.length_append, List.length_cons, List.length_nil]
  congr 2
  omega
theorem triS_head {G : Tm → Bool} {t : Tri} (ht : GoodTri G t) : ∃ c m, triS t = c :: m ∧ (c = 95 ∨ c = 60 ∨ c = 34) := by
  obtain ⟨c, m, e, h⟩ := tmS_head ht.1.1
  exact ⟨c, _, by unfold triS; rw [e]; rfl, h⟩
/-- a line that doesn't end here -/
theorem over_none {L T : List Int} {i : Nat} {c : Int} (hc : c = 95 ∨ c = 60 ∨ c = 34) (h : L.drop i = c :: T) : overT L i = (i, false) := by
  obtain ⟨hi, _, _⟩ := dcons h
  have e := (pk_at h).1
  have hn : noteT L i = i := by
    unfold noteT
    rw [gap_none (head_blank hc) h, e, if_neg (by rcases hc with rfl | rfl | rfl <;> decide)]
  unfold overT
  rw [hn, e, if_neg (by omega), if_neg (by omega), decide_eq_false (by omega)]
theorem over_line10 {L T : List Int} {i : Nat} (h : L.drop i = 10 :: T) : overT L i = (i + 1, true) := by
  have e := (pk_at h).1
  have hn : noteT L i = i := by
    unfold noteT
    rw [gap_none (by rfl) h, e, if_neg (by decide)]
  unfold overT
  rw [hn, e, if_neg (by omega), if_pos rfl]
theorem parse_line {G : Tm → Bool} {L T : List Int} {f i : Nat} {acc : List Tri} {t : Tri} (ht : GoodTri G t) (h : L.drop i = lineS t ++ T) : parseGo G L (f + 1) i acc = parseGo G L f (i + (lineS t).length) (acc ++ [t]) := by
  unfold lineS at h ⊢
  rw [List.append_assoc] at h
  obtain ⟨c, m, e, hc⟩ := triS_head ht
  have h0 : L.drop i = c :: (m ++ ([10] ++ T)) := by rw [h, e]; rfl
  obtain ⟨hi, _, _⟩ := dcons h0
  conv => lhs; unfold parseGo
  rw [if_neg (by omega), over_none hc h0]
  dsimp only
  rw [triple_back ht h]
  dsimp only
  rw [over_line10 (T := T) (drop_on h)]
  dsimp only
  rw [List.length_append]
  rfl
theorem parse_lines {G : Tm → Bool} {L T : List Int} : ∀ (ts : List Tri) (f i : Nat) (acc : List Tri), (∀ t ∈ ts, GoodTri G t) → L.drop i = linesS ts ++ T → parseGo G L (f + ts.length) i acc = parseGo G L f (i + (linesS ts).length) (acc ++ ts)
  | [], f, i, acc, _, _ => by simp [linesS]
  | t :: ts, f, i, acc, ht, h => by
    unfold linesS at h ⊢
    rw [List.flatMap_cons, List.append_assoc] at h
    rw [List.length_cons, ← Nat.add_assoc, parse_line (ht t List.mem_cons_self) h, parse_lines ts f _ _ (fun x hx => ht x (List.mem_cons_of_mem _ hx)) (drop_on h)]
    rw [List.flatMap_cons, List.length_append, List.append_assoc]
    congr 1
    · unfold linesS; omega
theorem line_pos (t : Tri) : 1 ≤ (lineS t).length := by unfold lineS; simp
theorem lines_ge : ∀ ts : List Tri, ts.length ≤ (linesS ts).length
  | [] => by simp
  | t :: ts => by
    have h1 := lines_ge ts
    have h2 := line_pos t
    unfold linesS at h1 ⊢
    rw [List.flatMap_cons, List.length_append, List.length_cons]
    omega
theorem parse_end {G : Tm → Bool} {L : List Int} {f i : Nat} {acc : List Tri} (h : L.length ≤ i) : parseGo G L f i acc = (acc, 0, 0) := by
  cases f with
  | zero => rfl
  | succ f => unfold parseGo; rw [if_pos h]
/-- printed triples are parsed as they were -/
theorem parse_back {G : Tm → Bool} (ts : List Tri) (h : ∀ t ∈ ts, GoodTri G t) : parseT G (linesS ts) = (ts, 0, 0) := by
  unfold parseT
  have hg := lines_ge ts
  obtain ⟨f, hf⟩ : ∃ f, (linesS ts).length + 1 = f + ts.length := ⟨(linesS ts).length + 1 - ts.length, by omega⟩
  rw [hf, parse_lines (T := []) ts f 0 [] h (by simp), parse_end (by omega), List.nil_append]
end Go.Proofs.YtbchkhjkajagfaaDoor
