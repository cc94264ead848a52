/- Plain laws: no reader of package nt goes beyond the end; where a parse is right its place is 0. Contracts over this seat's program: the document's Text, Print. Contract over this seat's program: the document's Print. The law NtShifts: its walk. Every row of triples, every string. -/
import Derived.Test.YtbchkhjkajagfaaGreatDoorNtMore
import Derived.Test.YtbchkhjkajagfaaGreatDoorNtParse
import Derived.Test.YtbchkhjkajagfaaGreatDoorNtPrint
import Derived.Test.YtbchkhjkajagfaaGreatDoorNtRRead
import Derived.Test.YtbchkhjkajagfaaGreatDoorScRQuote
import Derived.Test.YtbchkhjkajagfaaGreatDoorNtParses
namespace Go.Proofs.YtbchkhjkajagfaaGreatDoor
open Go Go.RowKit
set_option linter.unusedVariables false
set_option linter.unusedSimpArgs false
theorem iriGo_le (l : List Int) : ∀ (f i : Nat) (acc : List Int), i ≤ l.length → (iriGo l f i acc).2 ≤ l.length
  | 0, i, acc, h => h
  | f + 1, i, acc, h => by
    unfold iriGo
    split
    · exact h
    · rename_i hne
      have hi : i < l.length := by
        by_cases h1 : i < l.length
        · exact h1
        · exact absurd (.inl (pk_no (by omega))) hne
      split
      · show i + 1 ≤ _; omega
      · split
        · split
          · rename_i h117
            have := pk_lt h117 (by decide)
            have hn := nnumV_le l 4 (i + 2) 0 (by omega)
            split
            · rename_i x j e
              rw [e] at hn
              exact iriGo_le l f j _ hn
            · rename_i j e
              rw [e] at hn
              exact hn
          · split
            · rename_i h85
              have := pk_lt h85 (by decide)
              have hn := nnumV_le l 8 (i + 2) 0 (by omega)
              split
              · rename_i x j e
                rw [e] at hn
                exact iriGo_le l f j _ hn
              · rename_i j e
                rw [e] at hn
                exact hn
            · show i + 1 ≤ _; omega
        · exact iriGo_le l f (i + 1) _ (by omega)
theorem iri_le (l : List Int) (i : Nat) (h : i ≤ l.length) : (iriT l i).2 ≤ l.length := by
  unfold iriT
  split
  · rename_i h60
    have := pk_lt h60 (by decide)
    exact iriGo_le l _ _ _ (by omega)
  · exact h
theorem word_le (l : List Int) (i : Nat) (u : Bool) (h : i ≤ l.length) : (wordT l i u).2 ≤ l.length := twk_le h
theorem form_le (l : List Int) (i : Nat) (h : i ≤ l.length) : (formT l i).2 ≤ l.length := by
  unfold formT
  split
  · exact iri_le l i h
  · split
    · rename_i h95
      have := pk_lt h95 (by decide)
      split
      · rename_i h58
        have := pk_lt h58 (by decide)
        exact word_le l _ _ (by omega)
      · show i + 1 ≤ _; omega
    · split
      · have hq := nquotedV_le l i h
        split
        · rename_i j e
          rw [e] at hq
          exact hq
        · rename_i t j e
          rw [e] at hq
          have hq : j ≤ l.length := hq
          split
          · rename_i h94
            have := pk_lt h94.2 (by decide)
            exact iri_le l _ (by omega)
          · split
            · rename_i h64
              have := pk_lt h64 (by decide)
              exact word_le l _ _ (by omega)
            · exact hq
      · exact h
theorem readT_le (G : Tm → Bool) (l : List Int) (i : Nat) (h : i ≤ l.length) : (readT G l i).2.1 ≤ l.length := by
  have hf := form_le l i h
  unfold readT
  split
  · rename_i j e
    rw [e] at hf
    exact hf
  · rename_i X j e
    rw [e] at hf
    split
    · exact hf
    · exact h
theorem place_le (G may : Tm → Bool) (l : List Int) (i : Nat) (h : i ≤ l.length) : (placeT G may l i).2.1 ≤ l.length := by
  have hf := readT_le G l i h
  unfold placeT
  split
  · rename_i j c e
    rw [e] at hf
    exact hf
  · rename_i X j c e
    rw [e] at hf
    split
    · exact (gap_facts l hf).2
    · exact h
theorem triple_le (G : Tm → Bool) (l : List Int) (i : Nat) (h : i ≤ l.length) : (tripleT G l i).2.1 ≤ l.length := by
  have h1 := place_le G maySub l i h
  unfold tripleT
  split
  · rename_i j c e
    rw [e] at h1
    exact h1
  · rename_i X j c e
    rw [e] at h1
    have h2 := place_le G mayPrd l j h1
    split
    · rename_i j c e
      rw [e] at h2
      exact h2
    · rename_i Y j2 c2 e
      rw [e] at h2
      have h3 := place_le G mayAny l j2 h2
      split
      · rename_i j c e
        rw [e] at h3
        exact h3
      · rename_i Z j3 c3 e
        rw [e] at h3
        split
        · rename_i h46
          have := pk_lt h46 (by decide)
          show j3 + 1 ≤ _
          omega
        · exact h3
theorem parse_place (G : Tm → Bool) (l : List Int) : ∀ (f i : Nat) (acc : List Tri), i ≤ l.length → (parseGo G l f i acc).2.1 ≤ l.length ∧ ((parseGo G l f i acc).2.2 = 0 → (parseGo G l f i acc).2.1 = 0)
  | 0, i, acc, h => ⟨Nat.zero_le _, fun _ => rfl⟩
  | f + 1, i, acc, h => by
    unfold parseGo
    split
    · exact ⟨Nat.zero_le _, fun _ => rfl⟩
    · have ho := over_facts l h
      split
      · rename_i j e
        rw [e] at ho
        exact parse_place G l f j acc ho.2.1
      · rename_i j e
        rw [e] at ho
        have hj : j ≤ l.length := ho.2.1
        have ht := triple_le G l j hj
        split
        · rename_i k c e
          rw [e] at ht
          exact ⟨ht, fun hc => absurd hc (triple_code e)⟩
        · rename_i t k c e
          rw [e] at ht
          have hk : k ≤ l.length := ht
          have ho2 := over_facts l hk
          split
          · rename_i n e2
            rw [e2] at ho2
            exact parse_place G l f n _ ho2.2.1
          · rename_i n e2
            rw [e2] at ho2
            exact ⟨ho2.2.1, fun hc => by have hc : (1 : Int) = 0 := hc; omega⟩
theorem parseS_place (G : Tm → Bool) (l : List Int) (r : List UInt8) : (parseS G l r).2.1 ≤ l.length ∧ ((parseS G l r).2.2 = 0 → (parseS G l r).2.1 = 0) := by
  unfold parseS
  split
  · exact parse_place G l _ 0 [] (Nat.zero_le _)
  · exact ⟨Nat.le_refl _, fun h => by have h : (1 : Int) = 0 := h; omega⟩
end Go.Proofs.YtbchkhjkajagfaaGreatDoor
namespace Go.Proofs.YtbchkhjkajagfaaGreatDoor
open Go Go.RowKit
set_option linter.unusedVariables false
set_option linter.unusedSimpArgs false
set_option maxRecDepth 100000
theorem rquote_sg {s : ByteArray} {a : Option Addr} {c : Nat} {w : World} (hr : Read s.data.toList (sg s) []) (h : SgRow (sg s) a c w) (hq : (sg s).length ≤ 100000) : Calls Tryz.prog 40 #[.slice a (sg s).length c] w fun e w' => e = .returned (.string (tBytes (qsigns (sg s)))) ∧ Below w.heap.size w w' := by
  have := rquote_any (sg s) w.heap.size c a w h.rcls hr.2.1 hq
  rw [← textB_q (sg s) hr.2.1] at this
  exact this
set_option maxHeartbeats 6400000 in
theorem rtext_good {X : Tm} (hX : GoodS X) (hz : Small X) (hq : (sg (text0 X)).length ≤ 100000) (w : World) : Calls Tryz.prog 17 #[refT X] w fun e w' => e = .returned (.string (tBytes (tmS X))) ∧ Below w.heap.size w w' := by
  cases X with
  | blank s =>
    obtain ⟨hr, _⟩ := hX
    show Calls Tryz.prog 17 #[.agg #[.int .i64 0, .string s, .string ⟨#[]⟩, .string ⟨#[]⟩]] w _
    have hz0 : s.size ≤ 1000000 := hz.1
    have hE := tx_blank hr
    have g1 : ∀ w : World, (Op.stringOp .add ⟨#[95, 58]⟩ s).run Tryz.prog w = .ok (.string (⟨#[95, 58]⟩ ++ s)) w := add_str _ _ (by rw [show (⟨#[95, 58]⟩ : ByteArray).size = 2 from rfl]; omega)
    rw [hE] at g1
    generalize tBytes (tmS (.blank s)) = Z at *
    clear hE hr hz hq
    go_enter Tryz.func17, Tryz.ntmps17
    go_wp2_with fail
    go_ret
    exact ⟨rfl, by go_grown⟩
  | iri s =>
    obtain ⟨hr, _⟩ := hX
    show Calls Tryz.prog 17 #[.agg #[.int .i64 1, .string s, .string ⟨#[]⟩, .string ⟨#[]⟩]] w _
    have hz0 : s.size ≤ 1000000 := hz.1
    have hE := tx_iri hr
    have e1 : (⟨#[60]⟩ ++ s : ByteArray).size = 1 + s.size := by rw [ByteArray.size_append]; rfl
    have g1 : ∀ w : World, (Op.stringOp .add ⟨#[60]⟩ s).run Tryz.prog w = .ok (.string (⟨#[60]⟩ ++ s)) w := add_str _ _ (by rw [show (⟨#[60]⟩ : ByteArray).size = 1 from rfl]; omega)
    have g2 : ∀ w : World, (Op.stringOp .add (⟨#[60]⟩ ++ s) ⟨#[62]⟩).run Tryz.prog w = .ok (.string ((⟨#[60]⟩ ++ s) ++ ⟨#[62]⟩)) w := add_str _ _ (by rw [e1, show (⟨#[62]⟩ : ByteArray).size = 1 from rfl]; omega)
    rw [hE] at g2
    generalize tBytes (tmS (.iri s)) = Z at *
    generalize (⟨#[60]⟩ ++ s : ByteArray) = Y at *
    clear hE hr hz hq e1
    go_enter Tryz.func17, Tryz.ntmps17
    go_wp2_with fail
    go_ret
    exact ⟨rfl, by go_grown⟩
  | lit s t g =>
    obtain ⟨hr, ht, _, hg⟩ := hX
    show Calls Tryz.prog 17 #[.agg #[.int .i64 2, .string s, .string t, .string g]] w _
    obtain ⟨hz0, hz1, hz2⟩ := hz
    have hz0 : s.size ≤ 1000000 := hz0
    have hz1 : t.size ≤ 1000000 := hz1
    have hz2 : g.size ≤ 1000000 := hz2
    have hq : (sg s).length ≤ 100000 := hq
    obtain ⟨W1, hW1⟩ : ∃ W1, W1 = w.alloc (.cells #[.int .i64 2, .string s, .string t, .string g] 27) := ⟨_, rfl⟩
    have hx1 : W1.heap[w.heap.size]? = some (.cells #[.int .i64 2, .string s, .string t, .string g] 27 (0, 0)) := by rw [hW1]; exact blk_new w _ _
    have HB1 : Hid (Below w.heap.size w W1) := Lib.hid (by rw [hW1]; exact (Below.refl _ _).alloc (Nat.le_refl _) _)
    have HX1 := Lib.hid hx1
    have HW1 := Lib.hid hW1
    have HSI := Lib.hid (fun w => signs_row s (sg s) w hr (by omega))
    have HQ := Lib.hid (fun a c w (h : SgRow (sg s) a c w) => rquote_sg hr h hq)
    have hqz := tq_size hr hz0
    obtain ⟨c0, c1, c2, c3, -⟩ := blk4 hx1
    rcases hg with ⟨hg0, hnl⟩ | ⟨hne, -, hgr, _⟩
    · have q1 : (g.toList == []) = true := by rw [hg0, Lib.toList_data]; rfl
      by_cases hst : t.data.toList = ntString.data.toList
      · have hE := tx_plain (s := s) hst
        rw [← hg0] at hE
        have q2 : (t.toList == [104, 116, 116, 112, 58, 47, 47, 119, 119, 119, 46, 119, 51, 46, 111, 114, 103, 47, 50, 48, 48, 49, 47, 88, 77, 76, 83, 99, 104, 101, 109, 97, 35, 115, 116, 114, 105, 110, 103]) = true := by rw [Lib.toList_data, hst]; decide
        rw [← hE]
        generalize tBytes (qsigns (sg s)) = Z at *
        clear hE hr hg0 hnl hst hW1 hx1 ht
        go_enter Tryz.func17, Tryz.ntmps17
        go_wp2_with fail
        rw [← HW1.out]
        refine (HSI.out _).mono ?_
        rintro e w2 ⟨ra, rc, rfl, hrow, hb2⟩
        have HB2 := Lib.hid (HB1.out.trans (hb2.mono HB1.out.size))
        have HX2 := Lib.hid (blk_below HX1.out hb2)
        have HQ2 := Lib.hid (HQ.out _ _ _ hrow)
        clear hrow hb2
        go_wp2_with fail
        refine HQ2.out.mono ?_
        rintro e w3 ⟨rfl, hb3⟩
        have HB3 := Lib.hid (HB2.out.trans (hb3.mono HB2.out.size))
        have HX3 := Lib.hid (blk_below HX2.out hb3)
        obtain ⟨d0, d1, d2, d3, -⟩ := blk4 HX3.out
        clear hb3 HX2 HB2 HQ2
        go_wp2_with fail
        go_ret
        exact ⟨rfl, HB3.out⟩
      · have hE := tx_type (s := s) ht hst
        rw [← hg0] at hE
        have q2 : (t.toList == [104, 116, 116, 112, 58, 47, 47, 119, 119, 119, 46, 119, 51, 46, 111, 114, 103, 47, 50, 48, 48, 49, 47, 88, 77, 76, 83, 99, 104, 101, 109, 97, 35, 115, 116, 114, 105, 110, 103]) = false := by
          rw [← Bool.not_eq_true]
          intro h
          rw [beq_iff_eq, Lib.toList_data] at h
          exact hst (h.trans rfl)
        obtain ⟨Q, hQ⟩ : ∃ Q, Q = tBytes (qsigns (sg s)) := ⟨_, rfl⟩
        rw [← hQ] at hE HQ hqz
        have e1 : (Q ++ ⟨#[94, 94, 60]⟩ : ByteArray).size = Q.size + 3 := by rw [ByteArray.size_append]; rfl
        have e2 : ((Q ++ ⟨#[94, 94, 60]⟩) ++ t : ByteArray).size = Q.size + 3 + t.size := by rw [ByteArray.size_append, e1]
        have g1 : ∀ w : World, (Op.stringOp .add Q ⟨#[94, 94, 60]⟩).run Tryz.prog w = .ok (.string (Q ++ ⟨#[94, 94, 60]⟩)) w := add_str _ _ (by rw [show (⟨#[94, 94, 60]⟩ : ByteArray).size = 3 from rfl]; omega)
        have g2 : ∀ w : World, (Op.stringOp .add (Q ++ ⟨#[94, 94, 60]⟩) t).run Tryz.prog w = .ok (.string ((Q ++ ⟨#[94, 94, 60]⟩) ++ t)) w := add_str _ _ (by omega)
        have g3 : ∀ w : World, (Op.stringOp .add ((Q ++ ⟨#[94, 94, 60]⟩) ++ t) ⟨#[62]⟩).run Tryz.prog w = .ok (.string (((Q ++ ⟨#[94, 94, 60]⟩) ++ t) ++ ⟨#[62]⟩)) w := add_str _ _ (by rw [e2, show (⟨#[62]⟩ : ByteArray).size = 1 from rfl]; omega)
        rw [hE] at g3
        generalize tBytes (tmS (.lit s t g)) = Z at *
        generalize ((Q ++ ⟨#[94, 94, 60]⟩) ++ t : ByteArray) = Y2 at *
        generalize (Q ++ ⟨#[94, 94, 60]⟩ : ByteArray) = Y1 at *
        clear hE hr hg0 hnl hst hW1 hx1 ht hQ e1 e2
        go_enter Tryz.func17, Tryz.ntmps17
        go_wp2_with fail
        rw [← HW1.out]
        refine (HSI.out _).mono ?_
        rintro e w2 ⟨ra, rc, rfl, hrow, hb2⟩
        have HB2 := Lib.hid (HB1.out.trans (hb2.mono HB1.out.size))
        have HX2 := Lib.hid (blk_below HX1.out hb2)
        have HQ2 := Lib.hid (HQ.out _ _ _ hrow)
        clear hrow hb2
        go_wp2_with fail
        refine HQ2.out.mono ?_
        rintro e w3 ⟨rfl, hb3⟩
        have HB3 := Lib.hid (HB2.out.trans (hb3.mono HB2.out.size))
        have HX3 := Lib.hid (blk_below HX2.out hb3)
        obtain ⟨d0, d1, d2, d3, -⟩ := blk4 HX3.out
        clear hb3 HX2 HB2 HQ2
        go_wp2_with fail
        go_ret
        exact ⟨rfl, HB3.out⟩
    · have hE := tx_lang (s := s) (t := t) hgr hne
      have q1 : (g.toList == []) = false := by
        rw [← Bool.not_eq_true]
        intro h
        rw [beq_iff_eq, Lib.toList_data] at h
        exact hne h
      obtain ⟨Q, hQ⟩ : ∃ Q, Q = tBytes (qsigns (sg s)) := ⟨_, rfl⟩
      rw [← hQ] at hE HQ hqz
      have e1 : (Q ++ ⟨#[64]⟩ : ByteArray).size = Q.size + 1 := by rw [ByteArray.size_append]; rfl
      have g1 : ∀ w : World, (Op.stringOp .add Q ⟨#[64]⟩).run Tryz.prog w = .ok (.string (Q ++ ⟨#[64]⟩)) w := add_str _ _ (by rw [show (⟨#[64]⟩ : ByteArray).size = 1 from rfl]; omega)
      have g2 : ∀ w : World, (Op.stringOp .add (Q ++ ⟨#[64]⟩) g).run Tryz.prog w = .ok (.string ((Q ++ ⟨#[64]⟩) ++ g)) w := add_str _ _ (by omega)
      rw [hE] at g2
      generalize tBytes (tmS (.lit s t g)) = Z at *
      generalize (Q ++ ⟨#[64]⟩ : ByteArray) = Y1 at *
      clear hE hr hne hW1 hx1 ht hQ e1 hgr
      go_enter Tryz.func17, Tryz.ntmps17
      go_wp2_with fail
      rw [← HW1.out]
      refine (HSI.out _).mono ?_
      rintro e w2 ⟨ra, rc, rfl, hrow, hb2⟩
      have HB2 := Lib.hid (HB1.out.trans (hb2.mono HB1.out.size))
      have HX2 := Lib.hid (blk_below HX1.out hb2)
      have HQ2 := Lib.hid (HQ.out _ _ _ hrow)
      clear hrow hb2
      go_wp2_with fail
      refine HQ2.out.mono ?_
      rintro e w3 ⟨rfl, hb3⟩
      have HB3 := Lib.hid (HB2.out.trans (hb3.mono HB2.out.size))
      have HX3 := Lib.hid (blk_below HX2.out hb3)
      obtain ⟨d0, d1, d2, d3, -⟩ := blk4 HX3.out
      clear hb3 HX2 HB2 HQ2
      go_wp2_with fail
      go_ret
      exact ⟨rfl, HB3.out⟩
  | odd n => exact hX.elim
  | none => exact hX.elim
/-- a good literal's text is short -/
theorem good_len {G : Tm → Bool} (hG : GoodFn G) {X : Tm} (hz : Small X) (h : G X = true) : (sg (text0 X)).length ≤ 100000 := by
  obtain ⟨l1, r1, h1⟩ := read_some (text0 X).data.toList
  obtain ⟨l2, r2, h2⟩ := read_some (text1 X).data.toList
  have hs := (good_signs hG hz h).2
  have h0 := h
  rw [(hG X hz).2.2.2 l1 r1 l2 r2 h1 h2] at h
  cases X with
  | blank s =>
    have h : labV s.data.toList = true := h
    unfold labV at h
    simp only [Bool.and_eq_true, decide_eq_true_eq] at h
    have h3 : (sg s).length ≤ s.size := read_len hs.1
    have : s.data.toList.length = s.size := rfl
    show (sg s).length ≤ _
    omega
  | iri s =>
    have h : iriV s l1 r1 = true := h
    unfold iriV at h
    simp only [Bool.and_eq_true, decide_eq_true_eq] at h
    have h3 : (sg s).length ≤ s.size := read_len hs.1
    show (sg s).length ≤ _
    omega
  | lit s t g =>
    have h : litG s r1 t l2 r2 g = true := h
    unfold litG at h
    simp only [Bool.and_eq_true, decide_eq_true_eq] at h
    have h3 : (sg s).length ≤ s.size := read_len hs.1
    show (sg s).length ≤ _
    omega
  | odd n => cases h
  | none => cases h
end Go.Proofs.YtbchkhjkajagfaaGreatDoor
namespace Go.Proofs.YtbchkhjkajagfaaGreatDoor
open Go Go.RowKit
set_option linter.unusedVariables false
set_option linter.unusedSimpArgs false
set_option maxRecDepth 100000
theorem kept12 {w1 w2 : World} {p0 p1 p2 p3 p4 p5 p6 p7 p8 p9 p10 p11 : Addr} {v0 v1 v2 v3 v4 v5 v6 v7 v8 v9 v10 v11 : Value} (h : w1.cell? p0 = some v0 ∧ w1.cell? p1 = some v1 ∧ w1.cell? p2 = some v2 ∧ w1.cell? p3 = some v3 ∧ w1.cell? p4 = some v4 ∧ w1.cell? p5 = some v5 ∧ w1.cell? p6 = some v6 ∧ w1.cell? p7 = some v7 ∧ w1.cell? p8 = some v8 ∧ w1.cell? p9 = some v9 ∧ w1.cell? p10 = some v10 ∧ w1.cell? p11 = some v11) (hb : Below w1.heap.size w1 w2) :
    w2.cell? p0 = some v0 ∧ w2.cell? p1 = some v1 ∧ w2.cell? p2 = some v2 ∧ w2.cell? p3 = some v3 ∧ w2.cell? p4 = some v4 ∧ w2.cell? p5 = some v5 ∧ w2.cell? p6 = some v6 ∧ w2.cell? p7 = some v7 ∧ w2.cell? p8 = some v8 ∧ w2.cell? p9 = some v9 ∧ w2.cell? p10 = some v10 ∧ w2.cell? p11 = some v11 := by
  obtain ⟨h0, h1, h2, h3, h4, h5, h6, h7, h8, h9, h10, h11⟩ := h
  exact ⟨cell_below h0 hb, cell_below h1 hb, cell_below h2 hb, cell_below h3 hb, cell_below h4 hb, cell_below h5 hb, cell_below h6 hb, cell_below h7 hb, cell_below h8 hb, cell_below h9 hb, cell_below h10 hb, cell_below h11 hb⟩
theorem tx_line (P : List Int) (t : Tri) : ((((((tBytes P ++ tBytes (tmS t.s)) ++ ⟨#[32]⟩) ++ tBytes (tmS t.p)) ++ ⟨#[32]⟩) ++ tBytes (tmS t.o)) ++ ⟨#[32, 46, 10]⟩) = tBytes (P ++ lineS t) := by
  refine ba_eq ?_
  rw [join_data, join_data, join_data, join_data, join_data, join_data, tB_data, tB_data, tB_data, tB_data, tB_data]
  unfold lineS triS
  rw [textB_append, textB_append, textB_append, enc_lit (b := 32) (by decide), textB_append, enc_lit (b := 32) (by decide), textB_append, enc_lit (b := 32) (by decide), enc_lit (b := 46) (by decide), enc_lit (n := 10) (b := 10) (by decide)]
  simp
  rfl
theorem linesS_snoc {ts : List Tri} {k : Nat} (hk : k < ts.length) : linesS (ts.take (k + 1)) = linesS (ts.take k) ++ lineS (ts[k]'hk) := by
  rw [List.take_succ_eq_append_getElem hk]
  unfold linesS
  rw [List.flatMap_append, List.flatMap_singleton]
set_option maxHeartbeats 6400000 in
theorem rprint_any {G : Tm → Bool} (hG : GoodFn G) {base : Nat} {V : Value} {ts : List Tri} (w : World) (hr : RTriRow w base V ts) (ht : ∀ t ∈ ts, GoodTri G t ∧ SmallTri t) (hn : ts.length ≤ 100000) :
    Calls Tryz.prog 9 #[V] w fun e w' => e = .returned (.string (tBytes (linesS ts))) ∧ Below w.heap.size w w' := by
  obtain ⟨a, cap, rfl⟩ := hr.form
  have HR := Lib.hid hr
  have HT := Lib.hid (fun k (hk : k < ts.length) => ht _ (List.getElem_mem hk))
  have HGF := Lib.hid hG
  have HLL := Lib.hid (fun k => lines_len (ts.take k) (fun t h => ht t (List.mem_of_mem_take h)))
  have HSN := Lib.hid (fun k (hk : k < ts.length) => linesS_snoc hk)
  have hn0 : ts.length ≤ 9223372036854775807 := by omega
  clear hr ht hG
  go_enter Tryz.func9, Tryz.ntmps9
  go_wp2_with fail
  go_loopw [3, 7] (fun v3 i wr => ∃ k : Nat, k ≤ ts.length ∧ i = .int .i64 k ∧ v3 = .string (tBytes (linesS (ts.take k))) ∧ Hid (Below w.heap.size w wr)) (fun _ i _ => ts.length - (intOf i).toNat)
  case atStart => exact ⟨0, by omega, rfl, rfl, Lib.hid (Below.refl _ _)⟩
  case round =>
    obtain ⟨k, hk, rfl, rfl, HB⟩ := hrel
    obtain ⟨wo, hwo⟩ : ∃ wo : World, wo = wr := ⟨_, rfl⟩
    subst hwo
    by_cases hlt : k < ts.length
    · obtain ⟨gb, gc, hv, hgb, r0, r1, r2, r3, r4, r5, r6, r7, r8, r9, r10, r11⟩ := rtri_at (HR.out.below HB.out) k hlt
      obtain rfl : a = some ⟨gb, 0, none⟩ := by injection hv
      obtain ⟨hgt, hst⟩ := HT.out k hlt
      have HT1 := Lib.hid (fun w => rtext_good hgt.1.1 hst.1 (good_len HGF.out hst.1 hgt.1.2.1) w)
      have HT2 := Lib.hid (fun w => rtext_good hgt.2.1.1 hst.2.1 (good_len HGF.out hst.2.1 hgt.2.1.2.1) w)
      have HT3 := Lib.hid (fun w => rtext_good hgt.2.2.1 hst.2.2 (good_len HGF.out hst.2.2 hgt.2.2.2) w)
      have l1 := tmS_len hgt.1.1 hst.1
      have l2 := tmS_len hgt.2.1.1 hst.2.1
      have l3 := tmS_len hgt.2.2.1 hst.2.2
      have l0 := HLL.out k
      have l4 : (ts.take k).length ≤ ts.length := by rw [List.length_take]; omega
      have hE := tx_line (linesS (ts.take k)) (ts[k]'hlt)
      rw [← HSN.out k hlt] at hE
      obtain ⟨t, htt⟩ : ∃ t, t = ts[k]'hlt := ⟨_, rfl⟩
      rw [← htt] at r0 r1 r2 r3 r4 r5 r6 r7 r8 r9 r10 r11 HT1 HT2 HT3 l1 l2 l3 hE
      have b0 := tB_size (linesS (ts.take k))
      have b1 := tB_size (tmS t.s)
      have b2 := tB_size (tmS t.p)
      have b3 := tB_size (tmS t.o)
      unfold refT at HT1 HT2 HT3
      obtain ⟨Z, hZ⟩ : ∃ Z, Z = tBytes (linesS (ts.take (k + 1))) := ⟨_, rfl⟩
      rw [← hZ] at hE
      have HZ := Lib.hid hZ
      clear hZ
      generalize tBytes (linesS (ts.take k)) = P at *
      generalize tBytes (tmS t.s) = A at *
      generalize tBytes (tmS t.p) = B at *
      generalize tBytes (tmS t.o) = C at *
      obtain ⟨k1, hk1⟩ : ∃ x, x = kindV t.s := ⟨_, rfl⟩
      obtain ⟨x1, hx1⟩ : ∃ x, x = text0 t.s := ⟨_, rfl⟩
      obtain ⟨y1, hy1⟩ : ∃ x, x = text1 t.s := ⟨_, rfl⟩
      obtain ⟨z1, hz1⟩ : ∃ x, x = text2 t.s := ⟨_, rfl⟩
      obtain ⟨k2, hk2⟩ : ∃ x, x = kindV t.p := ⟨_, rfl⟩
      obtain ⟨x2, hx2⟩ : ∃ x, x = text0 t.p := ⟨_, rfl⟩
      obtain ⟨y2, hy2⟩ : ∃ x, x = text1 t.p := ⟨_, rfl⟩
      obtain ⟨z2, hz2⟩ : ∃ x, x = text2 t.p := ⟨_, rfl⟩
      obtain ⟨k3, hk3⟩ : ∃ x, x = kindV t.o := ⟨_, rfl⟩
      obtain ⟨x3, hx3⟩ : ∃ x, x = text0 t.o := ⟨_, rfl⟩
      obtain ⟨y3, hy3⟩ : ∃ x, x = text1 t.o := ⟨_, rfl⟩
      obtain ⟨z3, hz3⟩ : ∃ x, x = text2 t.o := ⟨_, rfl⟩
      rw [← hk1, ← hx1, ← hy1, ← hz1] at HT1
      rw [← hk2, ← hx2, ← hy2, ← hz2] at HT2
      rw [← hk3, ← hx3, ← hy3, ← hz3] at HT3
      rw [← hk1] at r0
      rw [← hx1] at r1
      rw [← hy1] at r2
      rw [← hz1] at r3
      rw [← hk2] at r4
      rw [← hx2] at r5
      rw [← hy2] at r6
      rw [← hz2] at r7
      rw [← hk3] at r8
      rw [← hx3] at r9
      rw [← hy3] at r10
      rw [← hz3] at r11
      clear hk1 hx1 hy1 hz1 hk2 hx2 hy2 hz2 hk3 hx3 hy3 hz3
      have i1 : (0 : Int) ≤ (k : Int) := by omega
      have i2 : (k : Int) < (ts.length : Int) := by omega
      have s1 : (P ++ A : ByteArray).size = P.size + A.size := by rw [ByteArray.size_append]
      have s2 : ((P ++ A) ++ ⟨#[32]⟩ : ByteArray).size = P.size + A.size + 1 := by rw [ByteArray.size_append, s1]; rfl
      have s3 : (((P ++ A) ++ ⟨#[32]⟩) ++ B : ByteArray).size = P.size + A.size + 1 + B.size := by rw [ByteArray.size_append, s2]
      have s4 : ((((P ++ A) ++ ⟨#[32]⟩) ++ B) ++ ⟨#[32]⟩ : ByteArray).size = P.size + A.size + 1 + B.size + 1 := by rw [ByteArray.size_append, s3]; rfl
      have s5 : (((((P ++ A) ++ ⟨#[32]⟩) ++ B) ++ ⟨#[32]⟩) ++ C : ByteArray).size = P.size + A.size + 1 + B.size + 1 + C.size := by rw [ByteArray.size_append, s4]
      have z1 : (⟨#[32]⟩ : ByteArray).size = 1 := rfl
      have z2 : (⟨#[32, 46, 10]⟩ : ByteArray).size = 3 := rfl
      have g1 : ∀ w : World, (Op.stringOp .add P A).run Tryz.prog w = .ok (.string (P ++ A)) w := add_str _ _ (by omega)
      have g2 : ∀ w : World, (Op.stringOp .add (P ++ A) ⟨#[32]⟩).run Tryz.prog w = .ok (.string ((P ++ A) ++ ⟨#[32]⟩)) w := add_str _ _ (by omega)
      have g3 : ∀ w : World, (Op.stringOp .add ((P ++ A) ++ ⟨#[32]⟩) B).run Tryz.prog w = .ok (.string (((P ++ A) ++ ⟨#[32]⟩) ++ B)) w := add_str _ _ (by omega)
      have g4 : ∀ w : World, (Op.stringOp .add (((P ++ A) ++ ⟨#[32]⟩) ++ B) ⟨#[32]⟩).run Tryz.prog w = .ok (.string ((((P ++ A) ++ ⟨#[32]⟩) ++ B) ++ ⟨#[32]⟩)) w := add_str _ _ (by omega)
      have g5 : ∀ w : World, (Op.stringOp .add ((((P ++ A) ++ ⟨#[32]⟩) ++ B) ++ ⟨#[32]⟩) C).run Tryz.prog w = .ok (.string (((((P ++ A) ++ ⟨#[32]⟩) ++ B) ++ ⟨#[32]⟩) ++ C)) w := add_str _ _ (by omega)
      have g6 : ∀ w : World, (Op.stringOp .add (((((P ++ A) ++ ⟨#[32]⟩) ++ B) ++ ⟨#[32]⟩) ++ C) ⟨#[32, 46, 10]⟩).run Tryz.prog w = .ok (.string ((((((P ++ A) ++ ⟨#[32]⟩) ++ B) ++ ⟨#[32]⟩) ++ C) ++ ⟨#[32, 46, 10]⟩)) w := add_str _ _ (by omega)
      rw [hE] at g6
      generalize (((((P ++ A) ++ ⟨#[32]⟩) ++ B) ++ ⟨#[32]⟩) ++ C : ByteArray) = Q5 at *
      generalize ((((P ++ A) ++ ⟨#[32]⟩) ++ B) ++ ⟨#[32]⟩ : ByteArray) = Q4 at *
      generalize (((P ++ A) ++ ⟨#[32]⟩) ++ B : ByteArray) = Q3 at *
      generalize ((P ++ A) ++ ⟨#[32]⟩ : ByteArray) = Q2 at *
      generalize (P ++ A : ByteArray) = Q1 at *
      clear hE s1 s2 s3 s4 s5 z1 z2 l0 l1 l2 l3 l4 b0 b1 b2 b3 hgt hst htt hv hgb HLL HSN HT
      go_wp2_with fail
      refine wp_region_held_drew (S := (fun w' => w'.cell? ⟨gb, k * 12, none⟩ = some (.int .i64 k1) ∧ w'.cell? ⟨gb, k * 12 + 1, none⟩ = some (.string x1) ∧ w'.cell? ⟨gb, k * 12 + 2, none⟩ = some (.string y1) ∧ w'.cell? ⟨gb, k * 12 + 3, none⟩ = some (.string z1) ∧ w'.cell? ⟨gb, k * 12 + 4, none⟩ = some (.int .i64 k2) ∧ w'.cell? ⟨gb, k * 12 + 5, none⟩ = some (.string x2) ∧ w'.cell? ⟨gb, k * 12 + 6, none⟩ = some (.string y2) ∧ w'.cell? ⟨gb, k * 12 + 7, none⟩ = some (.string z2) ∧ w'.cell? ⟨gb, k * 12 + 8, none⟩ = some (.int .i64 k3) ∧ w'.cell? ⟨gb, k * 12 + 9, none⟩ = some (.string x3) ∧ w'.cell? ⟨gb, k * 12 + 10, none⟩ = some (.string y3) ∧ w'.cell? ⟨gb, k * 12 + 11, none⟩ = some (.string z3))) (by kernel_rfl) ?hSrpr0 (fun hHeld => ?_)
      case hSrpr0 => exact ⟨r0, r1, r2, r3, r4, r5, r6, r7, r8, r9, r10, r11⟩
      refine wpAnyH_take (i := 0) (oi := ⟨some 10, _, _, _, _, _⟩) (v := ?vrpr0) rfl (by kernel_rfl) (by kernel_rfl) (by kernel_rfl) (fun _ _ _ h => h) (Or.inl ⟨by kernel_rfl, ?yrpr0⟩) (by assumption) ?rrpr0
      case yrpr0 =>
        intro w hSw
        try dsimp only at hSw
        obtain ⟨r0, r1, r2, r3, r4, r5, r6, r7, r8, r9, r10, r11⟩ := hSw
        first | (go_simp; done) | (go_simp; with_reducible rfl)
      try simp only [Act.put, List.setIfInBounds_toArray, List.set_cons_zero, List.set_cons_succ]
      refine wpAnyH_take (i := 1) (oi := ⟨some 11, _, _, _, _, _⟩) (v := ?vrpr1) rfl (by kernel_rfl) (by kernel_rfl) (by kernel_rfl) (fun _ _ _ h => h) (Or.inl ⟨by kernel_rfl, ?yrpr1⟩) (by assumption) ?rrpr1
      case yrpr1 =>
        intro w hSw
        try dsimp only at hSw
        obtain ⟨r0, r1, r2, r3, r4, r5, r6, r7, r8, r9, r10, r11⟩ := hSw
        first | (go_simp; done) | (go_simp; with_reducible rfl)
      try simp only [Act.put, List.setIfInBounds_toArray, List.set_cons_zero, List.set_cons_succ]
      refine wpAnyH_take (i := 2) (oi := ⟨some 12, _, _, _, _, _⟩) (v := ?vrpr2) rfl (by kernel_rfl) (by kernel_rfl) (by kernel_rfl) (fun _ _ _ h => h) (Or.inl ⟨by kernel_rfl, ?yrpr2⟩) (by assumption) ?rrpr2
      case yrpr2 =>
        intro w hSw
        try dsimp only at hSw
        obtain ⟨r0, r1, r2, r3, r4, r5, r6, r7, r8, r9, r10, r11⟩ := hSw
        first | (go_simp; done) | (go_simp; with_reducible rfl)
      try simp only [Act.put, List.setIfInBounds_toArray, List.set_cons_zero, List.set_cons_succ]
      refine wpAnyH_take (i := 3) (oi := ⟨some 13, _, _, _, _, _⟩) (v := ?vrpr3) rfl (by kernel_rfl) (by kernel_rfl) (by kernel_rfl) (fun _ _ _ h => h) (Or.inl ⟨by kernel_rfl, ?yrpr3⟩) (by assumption) ?rrpr3
      case yrpr3 =>
        intro w hSw
        try dsimp only at hSw
        obtain ⟨r0, r1, r2, r3, r4, r5, r6, r7, r8, r9, r10, r11⟩ := hSw
        first | (go_simp; done) | (go_simp; with_reducible rfl)
      try simp only [Act.put, List.setIfInBounds_toArray, List.set_cons_zero, List.set_cons_succ]
      refine wpAnyH_take (i := 4) (oi := ⟨some 14, _, _, _, _, _⟩) (v := ?vrpr4) rfl (by kernel_rfl) (by kernel_rfl) (by kernel_rfl) (fun _ _ _ h => h) (Or.inl ⟨by kernel_rfl, ?yrpr4⟩) (by assumption) ?rrpr4
      case yrpr4 =>
        intro w hSw
        try dsimp only at hSw
        obtain ⟨r0, r1, r2, r3, r4, r5, r6, r7, r8, r9, r10, r11⟩ := hSw
        first | (go_simp; done) | (go_simp; with_reducible rfl)
      try simp only [Act.put, List.setIfInBounds_toArray, List.set_cons_zero, List.set_cons_succ]
      refine wpAnyH_take (i := 5) (oi := ⟨some 15, _, _, _, _, _⟩) (v := ?vrpr5) rfl (by kernel_rfl) (by kernel_rfl) (by kernel_rfl) (fun _ _ _ h => h) (Or.inl ⟨by kernel_rfl, ?yrpr5⟩) (by assumption) ?rrpr5
      case yrpr5 =>
        intro w hSw
        try dsimp only at hSw
        obtain ⟨r0, r1, r2, r3, r4, r5, r6, r7, r8, r9, r10, r11⟩ := hSw
        first | (go_simp; done) | (go_simp; with_reducible rfl)
      try simp only [Act.put, List.setIfInBounds_toArray, List.set_cons_zero, List.set_cons_succ]
      refine wpAnyH_take (i := 9) (oi := ⟨some 19, _, _, _, _, _⟩) (v := ?vrpr9) rfl (by kernel_rfl) (by kernel_rfl) (by kernel_rfl) (fun _ _ _ h => h) (Or.inl ⟨by kernel_rfl, ?yrpr9⟩) (by assumption) ?rrpr9
      case yrpr9 =>
        intro w hSw
        try dsimp only at hSw
        obtain ⟨r0, r1, r2, r3, r4, r5, r6, r7, r8, r9, r10, r11⟩ := hSw
        first | (go_simp; done) | (go_simp; with_reducible rfl)
      try simp only [Act.put, List.setIfInBounds_toArray, List.set_cons_zero, List.set_cons_succ]
      refine wpAnyH_take (i := 10) (oi := ⟨some 20, _, _, _, _, _⟩) (v := ?vrpr10) rfl (by kernel_rfl) (by kernel_rfl) (by kernel_rfl) (fun _ _ _ h => h) (Or.inl ⟨by kernel_rfl, ?yrpr10⟩) (by assumption) ?rrpr10
      case yrpr10 =>
        intro w hSw
        try dsimp only at hSw
        obtain ⟨r0, r1, r2, r3, r4, r5, r6, r7, r8, r9, r10, r11⟩ := hSw
        first | (go_simp; done) | (go_simp; with_reducible rfl)
      try simp only [Act.put, List.setIfInBounds_toArray, List.set_cons_zero, List.set_cons_succ]
      refine wpAnyH_take (i := 11) (oi := ⟨some 21, _, _, _, _, _⟩) (v := ?vrpr11) rfl (by kernel_rfl) (by kernel_rfl) (by kernel_rfl) (fun _ _ _ h => h) (Or.inl ⟨by kernel_rfl, ?yrpr11⟩) (by assumption) ?rrpr11
      case yrpr11 =>
        intro w hSw
        try dsimp only at hSw
        obtain ⟨r0, r1, r2, r3, r4, r5, r6, r7, r8, r9, r10, r11⟩ := hSw
        first | (go_simp; done) | (go_simp; with_reducible rfl)
      try simp only [Act.put, List.setIfInBounds_toArray, List.set_cons_zero, List.set_cons_succ]
      refine wpAnyH_take (i := 12) (oi := ⟨some 22, _, _, _, _, _⟩) (v := ?vrpr12) rfl (by kernel_rfl) (by kernel_rfl) (by kernel_rfl) (fun _ _ _ h => h) (Or.inl ⟨by kernel_rfl, ?yrpr12⟩) (by assumption) ?rrpr12
      case yrpr12 =>
        intro w hSw
        try dsimp only at hSw
        obtain ⟨r0, r1, r2, r3, r4, r5, r6, r7, r8, r9, r10, r11⟩ := hSw
        first | (go_simp; done) | (go_simp; with_reducible rfl)
      try simp only [Act.put, List.setIfInBounds_toArray, List.set_cons_zero, List.set_cons_succ]
      refine wpAnyH_take (i := 13) (oi := ⟨some 23, _, _, _, _, _⟩) (v := ?vrpr13) rfl (by kernel_rfl) (by kernel_rfl) (by kernel_rfl) (fun _ _ _ h => h) (Or.inl ⟨by kernel_rfl, ?yrpr13⟩) (by assumption) ?rrpr13
      case yrpr13 =>
        intro w hSw
        try dsimp only at hSw
        obtain ⟨r0, r1, r2, r3, r4, r5, r6, r7, r8, r9, r10, r11⟩ := hSw
        first | (go_simp; done) | (go_simp; with_reducible rfl)
      try simp only [Act.put, List.setIfInBounds_toArray, List.set_cons_zero, List.set_cons_succ]
      refine wpAnyH_take (i := 17) (oi := ⟨some 27, _, _, _, _, _⟩) (v := ?vrpr17) rfl (by kernel_rfl) (by kernel_rfl) (by kernel_rfl) (fun _ _ _ h => h) (Or.inl ⟨by kernel_rfl, ?yrpr17⟩) (by assumption) ?rrpr17
      case yrpr17 =>
        intro w hSw
        try dsimp only at hSw
        obtain ⟨r0, r1, r2, r3, r4, r5, r6, r7, r8, r9, r10, r11⟩ := hSw
        first | (go_simp; done) | (go_simp; with_reducible rfl)
      try simp only [Act.put, List.setIfInBounds_toArray, List.set_cons_zero, List.set_cons_succ]
      refine wpAnyH_take (i := 18) (oi := ⟨some 28, _, _, _, _, _⟩) (v := ?vrpr18) rfl (by kernel_rfl) (by kernel_rfl) (by kernel_rfl) (fun _ _ _ h => h) (Or.inl ⟨by kernel_rfl, ?yrpr18⟩) (by assumption) ?rrpr18
      case yrpr18 =>
        intro w hSw
        try dsimp only at hSw
        obtain ⟨r0, r1, r2, r3, r4, r5, r6, r7, r8, r9, r10, r11⟩ := hSw
        first | (go_simp; done) | (go_simp; with_reducible rfl)
      try simp only [Act.put, List.setIfInBounds_toArray, List.set_cons_zero, List.set_cons_succ]
      refine wpAnyH_take (i := 19) (oi := ⟨some 29, _, _, _, _, _⟩) (v := ?vrpr19) rfl (by kernel_rfl) (by kernel_rfl) (by kernel_rfl) (fun _ _ _ h => h) (Or.inl ⟨by kernel_rfl, ?yrpr19⟩) (by assumption) ?rrpr19
      case yrpr19 =>
        intro w hSw
        try dsimp only at hSw
        obtain ⟨r0, r1, r2, r3, r4, r5, r6, r7, r8, r9, r10, r11⟩ := hSw
        first | (go_simp; done) | (go_simp; with_reducible rfl)
      try simp only [Act.put, List.setIfInBounds_toArray, List.set_cons_zero, List.set_cons_succ]
      refine wpAnyH_take (i := 20) (oi := ⟨some 30, _, _, _, _, _⟩) (v := ?vrpr20) rfl (by kernel_rfl) (by kernel_rfl) (by kernel_rfl) (fun _ _ _ h => h) (Or.inl ⟨by kernel_rfl, ?yrpr20⟩) (by assumption) ?rrpr20
      case yrpr20 =>
        intro w hSw
        try dsimp only at hSw
        obtain ⟨r0, r1, r2, r3, r4, r5, r6, r7, r8, r9, r10, r11⟩ := hSw
        first | (go_simp; done) | (go_simp; with_reducible rfl)
      try simp only [Act.put, List.setIfInBounds_toArray, List.set_cons_zero, List.set_cons_succ]
      refine wpAnyH_take (i := 21) (oi := ⟨some 31, _, _, _, _, _⟩) (v := ?vrpr21) rfl (by kernel_rfl) (by kernel_rfl) (by kernel_rfl) (fun _ _ _ h => h) (Or.inl ⟨by kernel_rfl, ?yrpr21⟩) (by assumption) ?rrpr21
      case yrpr21 =>
        intro w hSw
        try dsimp only at hSw
        obtain ⟨r0, r1, r2, r3, r4, r5, r6, r7, r8, r9, r10, r11⟩ := hSw
        first | (go_simp; done) | (go_simp; with_reducible rfl)
      try simp only [Act.put, List.setIfInBounds_toArray, List.set_cons_zero, List.set_cons_succ]
      refine wpAnyH_ready (rs := [6]) (by kernel_rfl) (by simp) ?_
      refine AllReadyH.cons (i := 6) (o := ⟨some 16, _, _, _, _, _⟩) rfl (fun K hK => ?_) AllReadyH.nil
      go_simp
      refine (HT1.out _).mono ?_
      rintro e w2 ⟨rfl, hb2⟩
      have HB2 := Lib.hid (HB.out.drew.trans (hb2.mono (show w.heap.size ≤ wo.drew.heap.size from HB.out.size)))
      go_wp2_with fail
      refine hK.out _ _ ?_ (fun hHeld => ?_)
      · exact kept12 (by assumption) hb2
      clear hK K
      try simp only [Act.put, List.setIfInBounds_toArray, List.set_cons_zero, List.set_cons_succ]
      refine wpAnyH_take (i := 7) (oi := ⟨some 17, _, _, _, _, _⟩) (v := ?vrpr7) rfl (by kernel_rfl) (by kernel_rfl) (by kernel_rfl) (fun _ _ _ h => h) (Or.inl ⟨by kernel_rfl, ?yrpr7⟩) (by assumption) ?rrpr7
      case yrpr7 =>
        intro w hSw
        try dsimp only at hSw
        obtain ⟨r0, r1, r2, r3, r4, r5, r6, r7, r8, r9, r10, r11⟩ := hSw
        first | (go_simp; done) | (go_simp; with_reducible rfl)
      try simp only [Act.put, List.setIfInBounds_toArray, List.set_cons_zero, List.set_cons_succ]
      refine wpAnyH_take (i := 8) (oi := ⟨some 18, _, _, _, _, _⟩) (v := ?vrpr8) rfl (by kernel_rfl) (by kernel_rfl) (by kernel_rfl) (fun _ _ _ h => h) (Or.inl ⟨by kernel_rfl, ?yrpr8⟩) (by assumption) ?rrpr8
      case yrpr8 =>
        intro w hSw
        try dsimp only at hSw
        obtain ⟨r0, r1, r2, r3, r4, r5, r6, r7, r8, r9, r10, r11⟩ := hSw
        first | (go_simp; done) | (go_simp; with_reducible rfl)
      try simp only [Act.put, List.setIfInBounds_toArray, List.set_cons_zero, List.set_cons_succ]
      refine wpAnyH_ready (rs := [14]) (by kernel_rfl) (by simp) ?_
      refine AllReadyH.cons (i := 14) (o := ⟨some 24, _, _, _, _, _⟩) rfl (fun K hK => ?_) AllReadyH.nil
      go_simp
      refine (HT2.out _).mono ?_
      rintro e w3 ⟨rfl, hb3⟩
      have HB3 := Lib.hid (HB2.out.trans (hb3.mono HB2.out.size))
      go_wp2_with fail
      refine hK.out _ _ ?_ (fun hHeld => ?_)
      · exact kept12 (by assumption) hb3
      clear hK K
      try simp only [Act.put, List.setIfInBounds_toArray, List.set_cons_zero, List.set_cons_succ]
      refine wpAnyH_take (i := 15) (oi := ⟨some 25, _, _, _, _, _⟩) (v := ?vrpr15) rfl (by kernel_rfl) (by kernel_rfl) (by kernel_rfl) (fun _ _ _ h => h) (Or.inl ⟨by kernel_rfl, ?yrpr15⟩) (by assumption) ?rrpr15
      case yrpr15 =>
        intro w hSw
        try dsimp only at hSw
        obtain ⟨r0, r1, r2, r3, r4, r5, r6, r7, r8, r9, r10, r11⟩ := hSw
        first | (go_simp; done) | (go_simp; with_reducible rfl)
      try simp only [Act.put, List.setIfInBounds_toArray, List.set_cons_zero, List.set_cons_succ]
      refine wpAnyH_take (i := 16) (oi := ⟨some 26, _, _, _, _, _⟩) (v := ?vrpr16) rfl (by kernel_rfl) (by kernel_rfl) (by kernel_rfl) (fun _ _ _ h => h) (Or.inl ⟨by kernel_rfl, ?yrpr16⟩) (by assumption) ?rrpr16
      case yrpr16 =>
        intro w hSw
        try dsimp only at hSw
        obtain ⟨r0, r1, r2, r3, r4, r5, r6, r7, r8, r9, r10, r11⟩ := hSw
        first | (go_simp; done) | (go_simp; with_reducible rfl)
      try simp only [Act.put, List.setIfInBounds_toArray, List.set_cons_zero, List.set_cons_succ]
      refine wpAnyH_ready (rs := [22]) (by kernel_rfl) (by simp) ?_
      refine AllReadyH.cons (i := 22) (o := ⟨some 32, _, _, _, _, _⟩) rfl (fun K hK => ?_) AllReadyH.nil
      go_simp
      refine (HT3.out _).mono ?_
      rintro e w4 ⟨rfl, hb4⟩
      have HB4 := Lib.hid (HB3.out.trans (hb4.mono HB3.out.size))
      go_wp2_with fail
      refine hK.out _ _ ?_ (fun hHeld => ?_)
      · exact kept12 (by assumption) hb4
      clear hK K
      try simp only [Act.put, List.setIfInBounds_toArray, List.set_cons_zero, List.set_cons_succ]
      refine wpAnyH_take (i := 23) (oi := ⟨some 33, _, _, _, _, _⟩) (v := ?vrpr23) rfl (by kernel_rfl) (by kernel_rfl) (by kernel_rfl) (fun _ _ _ h => h) (Or.inl ⟨by kernel_rfl, ?yrpr23⟩) (by assumption) ?rrpr23
      case yrpr23 =>
        intro w hSw
        try dsimp only at hSw
        obtain ⟨r0, r1, r2, r3, r4, r5, r6, r7, r8, r9, r10, r11⟩ := hSw
        first | (go_simp; done) | (go_simp; with_reducible rfl)
      try simp only [Act.put, List.setIfInBounds_toArray, List.set_cons_zero, List.set_cons_succ]
      refine wpAnyH_take (i := 24) (oi := ⟨some 34, _, _, _, _, _⟩) (v := ?vrpr24) rfl (by kernel_rfl) (by kernel_rfl) (by kernel_rfl) (fun _ _ _ h => h) (Or.inl ⟨by kernel_rfl, ?yrpr24⟩) (by assumption) ?rrpr24
      case yrpr24 =>
        intro w hSw
        try dsimp only at hSw
        obtain ⟨r0, r1, r2, r3, r4, r5, r6, r7, r8, r9, r10, r11⟩ := hSw
        first | (go_simp; done) | (go_simp; with_reducible rfl)
      try simp only [Act.put, List.setIfInBounds_toArray, List.set_cons_zero, List.set_cons_succ]
      refine wpAnyH_take (i := 25) (oi := ⟨some 3, _, _, _, _, _⟩) (v := ?vrpr25) rfl (by kernel_rfl) (by kernel_rfl) (by kernel_rfl) (fun _ _ _ h => h) (Or.inl ⟨by kernel_rfl, ?yrpr25⟩) (by assumption) ?rrpr25
      case yrpr25 =>
        intro w hSw
        try dsimp only at hSw
        obtain ⟨r0, r1, r2, r3, r4, r5, r6, r7, r8, r9, r10, r11⟩ := hSw
        first | (go_simp; done) | (go_simp; with_reducible rfl)
      try simp only [Act.put, List.setIfInBounds_toArray, List.set_cons_zero, List.set_cons_succ]
      refine wpAnyH_done (by kernel_rfl) ?_ _
      go_wp2_with fail
      go_round
      case measure => simp only [intOf]; omega
      case rel => exact ⟨k + 1, by omega, by push_cast; rfl, by rw [HZ.out], HB4⟩
    · have t1 : decide ((k : Int) < (ts.length : Int)) = false := decide_eq_false (by omega)
      obtain ⟨Z, hZ⟩ : ∃ Z, Z = tBytes (linesS ts) := ⟨_, rfl⟩
      have hP : tBytes (linesS (ts.take k)) = Z := by rw [hZ, List.take_of_length_le (by omega)]
      rw [hP]
      have HZ := Lib.hid hZ
      clear HLL HSN HT hP hZ
      go_wp2_with fail
      go_ret
      exact ⟨by rw [HZ.out]; rfl, HB.out⟩
end Go.Proofs.YtbchkhjkajagfaaGreatDoor
namespace Go.Proofs.YtbchkhjkajagfaaGreatDoor
open Go Go.RowKit
set_option linter.unusedVariables false
set_option linter.unusedSimpArgs false
set_option maxRecDepth 100000
theorem parseT_sh {G : Tm → Bool} (hG : GoodFn G) (gs : List Tri) (hg : ∀ t ∈ gs, GoodTri G t) {l : List Int} (hl : Signs l) (hb : (linesS gs ++ l).length ≤ 100000) : parseT G (linesS gs ++ l) = shP (linesS gs).length gs (parseT G l) := by
  have hA := lines_signs gs hg
  have hge := lines_ge gs
  have hlen : (linesS gs ++ l).length = (linesS gs).length + l.length := List.length_append
  unfold parseT
  obtain ⟨f, hf⟩ : ∃ f, (linesS gs ++ l).length + 1 = f + gs.length := ⟨(linesS gs ++ l).length + 1 - gs.length, by omega⟩
  rw [hf, parse_lines (T := l) gs f 0 [] hg (by simp), List.nil_append, Nat.zero_add]
  have h1 := parse_sh G hA hl gs f 0 []
  rw [Nat.add_zero, List.append_nil] at h1
  rw [h1, parse_fuel hG hl (by omega) f (l.length + 1) 0 [] (Nat.zero_le _) (by omega) (by omega)]
theorem parseS_sh {G : Tm → Bool} (hG : GoodFn G) (gs : List Tri) (hg : ∀ t ∈ gs, GoodTri G t) {l : List Int} (r : List UInt8) (hl : Signs l) (hb : (linesS gs ++ l).length ≤ 100000) : parseS G (linesS gs ++ l) r = shP (linesS gs).length gs (parseS G l r) := by
  unfold parseS
  by_cases hr : r = []
  · rw [if_pos hr, if_pos hr]; exact parseT_sh hG gs hg hl hb
  · rw [if_neg hr, if_neg hr]
    unfold shP
    dsimp only
    rw [if_neg (by decide), List.length_append]
theorem read_shift {a b : List UInt8} {l m : List Int} {r : List UInt8} (ha : Read a l []) (hb : Read b m r) : Read (a ++ b) (l ++ m) r := by
  obtain ⟨a1, a2, _⟩ := ha
  obtain ⟨b1, b2, b3⟩ := hb
  refine ⟨?_, fun n hn => ?_, b3⟩
  · rw [a1, b1, textB_append, List.append_nil, List.append_assoc]
  · rcases List.mem_append.1 hn with h | h
    · exact a2 n h
    · exact b2 n h
section
variable {α : Type} {P : Program} {t T : TypeId} {size bytes : Nat} {c : α → List Value}
theorem wpList_append_guarded (E : Elt P t T size bytes c) {ops : Array Oper} {rest : List Oper} {o : Oper} {a : Act} {Q : Exit → Act → World → Prop} (w : World) (hgd : Region.wanted o (yielded ops a.tmps) = true) (s x : Operand) (ho : o.op = .call { callee := .builtin .append, args := #[s, x], argTypes := #[t, t] })
    (base b2 : Nat) (V V2 : Value) (us vs : List α) (hs : a.eval s = V) (hx : a.eval x = V2) (h : RowOf T size c w base V us) (h2 : RowOf T size c w b2 V2 vs) (hn : us.length + vs.length ≤ 200000) (hbase : base ≤ w.heap.size)
    (hk : ∀ V' w', RowOf T size c w' base V' (us ++ vs) → w.grownBy w' V.ownBlock → (V'.ownBlock = V.ownBlock ∨ V'.ownBlock = some w.heap.size) → wpList P ops Q rest (a.put o.dst V') w') : wpList P ops Q (o :: rest) a w := by
  unfold wpList
  rw [if_pos hgd]
  exact .inl (wp_append_rows E w s x ho base b2 V V2 us vs hs hx h h2 hn hbase fun V' w' h3 h4 h5 => hk V' w' h3 h4 h5)
end
theorem alloc_belowS (w : World) (o : Obj) : Below w.heap.size w (w.alloc o) := (Below.refl _ _).alloc (Nat.le_refl _) o
set_option maxHeartbeats 25600000 in
theorem ntshifts_walk (a1 : Option Addr) (rs : List Raw3) (cap1 : Nat) (s : ByteArray) (w : World) (he : Esc w) (hm : MaxV w) (h1 : Raw3sAt w a1 rs) (hl1 : rs.length ≤ 9223372036854775807) (hs : s.size ≤ 9223372036854775807) :
    Calls Tryz.prog 3 #[.slice a1 rs.length cap1, .string s] w fun e w' => e = .returned (.bool true) ∧ Below w.heap.size w w' := by
  obtain ⟨G, hG⟩ := good_fn
  have HA := Lib.hid (fun w' (hb : Below w.heap.size w w') => nawake_any hG w' (he.below he.lt hb) (hm.below hb))
  have HEs := Lib.hid he
  have HMs := Lib.hid hm
  have HGF := Lib.hid hG
  have HF1 := Lib.hid (fun w' (hb : Below w.heap.size w w') => few_any a1 rs cap1 w' (h1.below hb) hl1)
  clear he hm hG h1
  by_cases a20 : (300 : Int) < s.size
  · have q1 : decide ((300 : Int) < (s.size : Int)) = true := decide_eq_true a20
    clear a20
    go_enter Tryz.func3, Tryz.ntmps3
    go_wp2_with fail
    refine (HA.out _ (Below.refl _ _)).mono ?_
    rintro e w1 ⟨rfl, hb1⟩
    go_wp2_with fail
    refine (HA.out _ hb1).mono ?_
    rintro e w2 ⟨rfl, hb2⟩
    go_wp2_with fail
    go_ret
    exact ⟨rfl, hb1.trans (hb2.mono hb1.size)⟩
  have q1 : decide ((300 : Int) < (s.size : Int)) = false := decide_eq_false a20
  have hs3 : s.size ≤ 300 := by omega
  clear a20
  cases hf1 : fewB rs with
  | false =>
    rw [hf1] at HF1
    go_enter Tryz.func3, Tryz.ntmps3
    go_wp2_with fail
    refine (HA.out _ (Below.refl _ _)).mono ?_
    rintro e w1 ⟨rfl, hb1⟩
    have HB1 := Lib.hid hb1
    clear hb1
    go_wp2_with fail
    refine (HF1.out _ HB1.out).mono ?_
    rintro e w0 ⟨V5, rfl, hb3, hr5⟩
    have HB3 := Lib.hid (HB1.out.trans (hb3.mono HB1.out.size))
    clear hb3 hr5 hf1
    go_wp2_with fail
    go_ret
    exact ⟨rfl, HB3.out⟩
  | true =>
  have HSM1 := Lib.hid (fun k (hk : k < (fewT rs).length) => fewT_small hf1 _ (List.getElem_mem hk))
  have HG1 : Hid (∀ t ∈ goods G (fewT rs), GoodTri G t ∧ SmallTri t ∧ ShortTri t ∧ KeyTri t) := Lib.hid (fun t ht => ⟨good_of HGF.out (fewT_small hf1 _ (goods_mem ht).1) (goods_mem ht).2, fewT_small hf1 _ (goods_mem ht).1, few_short hf1 _ (goods_mem ht).1, fewT_key rs _ (goods_mem ht).1⟩)
  have HLEN1 := Lib.hid (fewT_len rs)
  rw [hf1] at HF1
  obtain ⟨ts, hts⟩ : ∃ ts, ts = fewT rs := ⟨_, rfl⟩
  rw [← hts] at HSM1 HG1 HLEN1 HF1
  clear hts hf1
  go_enter Tryz.func3, Tryz.ntmps3
  go_wp2_with fail
  refine (HA.out _ (Below.refl _ _)).mono ?_
  rintro e w1 ⟨rfl, hb1⟩
  have HB1 := Lib.hid hb1
  clear hb1
  go_wp2_with fail
  refine (HF1.out _ HB1.out).mono ?_
  rintro e w0 ⟨V5, rfl, hb3, hr5⟩
  have HR5 := Lib.hid (hr5 (by trivial))
  have HB3 := Lib.hid (HB1.out.trans (hb3.mono HB1.out.size))
  obtain ⟨a5, c5, rfl⟩ := HR5.out.form
  have hn1 : ts.length ≤ 9223372036854775807 := by have := HLEN1.out; omega
  clear hb3 hr5 HF1 HA
  go_wp2_with fail
  go_loopw [7, 36] (fun V i wr => ∃ k : Nat, k ≤ ts.length ∧ i = .int .i64 k ∧ Hid (T3 w0 V (goods G (ts.take k)) (.slice none 0 0) [] (.slice none 0 0) [] wr)) (fun _ i _ => ts.length - (intOf i).toNat)
  case atStart => exact ⟨0, by omega, rfl, Lib.hid (T3.start w0)⟩
  case round =>
    obtain ⟨k, hk, rfl, HT⟩ := hrel
    obtain ⟨wo, hwo⟩ : ∃ wo : World, wo = wr := ⟨_, rfl⟩
    subst hwo
    by_cases hlt : k < ts.length
    · obtain ⟨gb, gc, hv, hgb, r0, r1, r2, r3, r4, r5, r6, r7, r8, r9, r10, r11⟩ := rtri_at (HR5.out.below HT.out.1) k hlt
      obtain rfl : a5 = some ⟨gb, 0, none⟩ := by injection hv
      have HGD := Lib.hid (fun w => rgood3_any HGF.out (ts[k]'hlt) (HSM1.out k hlt) w)
      have HYES := Lib.hid (fun h => goods_yes (G := G) (ts := ts) (k := k) hlt h)
      have HNO := Lib.hid (fun h => goods_no (G := G) (ts := ts) (k := k) hlt h)
      have HGL := Lib.hid (goods_len G (ts.take k))
      have htl : (ts.take k).length ≤ 10 := by rw [List.length_take]; have := HLEN1.out; omega
      obtain ⟨t, ht⟩ : ∃ t, t = ts[k]'hlt := ⟨_, rfl⟩
      rw [← ht] at r0 r1 r2 r3 r4 r5 r6 r7 r8 r9 r10 r11 HGD HYES HNO
      obtain ⟨gx, hgx⟩ : ∃ gx, gx = goodTri G t := ⟨_, rfl⟩
      rw [← hgx] at HGD HYES HNO
      unfold rtriV at HGD
      obtain ⟨k1, hk1⟩ : ∃ x, x = kindV t.s := ⟨_, rfl⟩
      obtain ⟨x1, hx1⟩ : ∃ x, x = text0 t.s := ⟨_, rfl⟩
      obtain ⟨y1, hy1⟩ : ∃ x, x = text1 t.s := ⟨_, rfl⟩
      obtain ⟨z1, hz1⟩ : ∃ x, x = text2 t.s := ⟨_, rfl⟩
      obtain ⟨k2, hk2⟩ : ∃ x, x = kindV t.p := ⟨_, rfl⟩
      obtain ⟨x2, hx2⟩ : ∃ x, x = text0 t.p := ⟨_, rfl⟩
      obtain ⟨y2, hy2⟩ : ∃ x, x = text1 t.p := ⟨_, rfl⟩
      obtain ⟨z2, hz2⟩ : ∃ x, x = text2 t.p := ⟨_, rfl⟩
      obtain ⟨k3, hk3⟩ : ∃ x, x = kindV t.o := ⟨_, rfl⟩
      obtain ⟨x3, hx3⟩ : ∃ x, x = text0 t.o := ⟨_, rfl⟩
      obtain ⟨y3, hy3⟩ : ∃ x, x = text1 t.o := ⟨_, rfl⟩
      obtain ⟨z3, hz3⟩ : ∃ x, x = text2 t.o := ⟨_, rfl⟩
      have HRC : Hid (rtriC t = [.int .i64 k1, .string x1, .string y1, .string z1, .int .i64 k2, .string x2, .string y2, .string z2, .int .i64 k3, .string x3, .string y3, .string z3]) := Lib.hid (by rw [hk1, hx1, hy1, hz1, hk2, hx2, hy2, hz2, hk3, hx3, hy3, hz3]; rfl)
      rw [← hk1, ← hx1, ← hy1, ← hz1, ← hk2, ← hx2, ← hy2, ← hz2, ← hk3, ← hx3, ← hy3, ← hz3] at HGD
      rw [← hk1] at r0
      rw [← hx1] at r1
      rw [← hy1] at r2
      rw [← hz1] at r3
      rw [← hk2] at r4
      rw [← hx2] at r5
      rw [← hy2] at r6
      rw [← hz2] at r7
      rw [← hk3] at r8
      rw [← hx3] at r9
      rw [← hy3] at r10
      rw [← hz3] at r11
      clear hk1 hx1 hy1 hz1 hk2 hx2 hy2 hz2 hk3 hx3 hy3 hz3
      have b1 : (0 : Int) ≤ (k : Int) := by omega
      have b2 : (k : Int) < (ts.length : Int) := by omega
      obtain ⟨W1, hW1⟩ : ∃ W1, W1 = wo.alloc (.cells #[.int .i64 k1, .string x1, .string y1, .string z1, .int .i64 k2, .string x2, .string y2, .string z2, .int .i64 k3, .string x3, .string y3, .string z3] 29) := ⟨_, rfl⟩
      have HX1 : Hid (W1.heap[wo.heap.size]? = some (.cells #[.int .i64 k1, .string x1, .string y1, .string z1, .int .i64 k2, .string x2, .string y2, .string z2, .int .i64 k3, .string x3, .string y3, .string z3] 29 (0, 0))) := Lib.hid (by rw [hW1]; exact blk_new wo _ _)
      have HT1 := Lib.hid (show _ from HT.out.below (show Below wo.heap.size wo W1 from by rw [hW1]; exact alloc_belowS wo _))
      have HW1 := Lib.hid hW1
      obtain ⟨d0, d1, d2, d3, d4, d5, d6, d7, d8, d9, d10, d11⟩ := cells12 HX1.out
      clear hv hgb hW1 ht
      cases gx with
      | false =>
        clear hgx
        go_wp2_with fail
        rw [← HW1.out]
        refine (HGD.out _).mono ?_
        rintro e w2 ⟨rfl, hb2⟩
        have HT2 := Lib.hid (HT1.out.below hb2)
        clear hb2
        go_wp2_with fail
        go_round
        case measure => simp only [intOf]; omega
        case rel => exact ⟨k + 1, by omega, by push_cast; rfl, by rw [HNO.out (by trivial)]; exact HT2⟩
      | true =>
        clear hgx
        go_wp2_with fail
        rw [← HW1.out]
        refine (HGD.out _).mono ?_
        rintro e w2 ⟨rfl, hb2⟩
        have HT2 := Lib.hid (HT1.out.below hb2)
        have HX2 := Lib.hid (boxb HX1.out hb2)
        obtain ⟨va, vc, hva⟩ := HT2.out.2.1.form
        subst hva
        clear hb2 d0 d1 d2 d3 d4 d5 d6 d7 d8 d9 d10 d11
        obtain ⟨d0, d1, d2, d3, d4, d5, d6, d7, d8, d9, d10, d11⟩ := cells12 HX2.out
        go_wp2_with (at_builtin; go_loud (refine wpList_append_rows eltRTri _ rfl (.tmp 42) (.tmp 44) rfl w0.heap.size w2.heap.size _ _ _ [t] rfl rfl (HT2.out.below (alloc_belowS w2 (.cells #[.int .i64 k1, .string x1, .string y1, .string z1, .int .i64 k2, .string x2, .string y2, .string z2, .int .i64 k3, .string x3, .string y3, .string z3] 29))).2.1 (show RTriRow (w2.alloc (.cells #[.int .i64 k1, .string x1, .string y1, .string z1, .int .i64 k2, .string x2, .string y2, .string z2, .int .i64 k3, .string x3, .string y3, .string z3] 29)) w2.heap.size (.slice (some ⟨w2.heap.size, 0, none⟩) 1 1) [t] from by have := RowOf.new (T := 29) rtriC_len w2 [t] (by simp); rw [show [t].flatMap rtriC = [.int .i64 k1, .string x1, .string y1, .string z1, .int .i64 k2, .string x2, .string y2, .string z2, .int .i64 k3, .string x3, .string y3, .string z3] from by rw [List.flatMap_singleton, HRC.out]] at this; exact this) (by simp; have := HGL.out; omega) (by have := HT2.out.1.size; simp; omega) ?_; intro V4 w4 r4 q4 at4))
        have HT4 := Lib.hid ((HT2.out.below (alloc_belowS w2 (.cells #[.int .i64 k1, .string x1, .string y1, .string z1, .int .i64 k2, .string x2, .string y2, .string z2, .int .i64 k3, .string x3, .string y3, .string z3] 29))).growV r4 q4 at4)
        clear r4 q4 at4
        go_round
        case measure => simp only [intOf]; omega
        case rel => exact ⟨k + 1, by omega, by push_cast; rfl, by rw [HYES.out (by trivial)]; exact HT4⟩
    · have t1 : decide ((k : Int) < (ts.length : Int)) = false := decide_eq_false (by omega)
      have HTF := Lib.hid (show T3 w0 u7 (goods G ts) (.slice none 0 0) [] (.slice none 0 0) [] wo from by have := HT.out; rw [List.take_of_length_le (show ts.length ≤ k by omega)] at this; exact this)
      have hgl := goods_len G ts
      have hl10 := HLEN1.out
      obtain ⟨gl, hgl0⟩ : ∃ gl, gl = goods G ts := ⟨_, rfl⟩
      rw [← hgl0] at HTF hgl HG1
      have hla := lines_all (G := G) gl (fun t ht => ⟨(HG1.out t ht).1, (HG1.out t ht).2.2.1⟩)
      obtain ⟨A, hA⟩ : ∃ A, A = linesS gl := ⟨_, rfl⟩
      have hAl : A.length ≤ 28170 := by rw [hA]; have := hla.1; omega
      obtain ⟨l, r, hrd⟩ := read_some s.data.toList
      have hll := read_len hrd
      have e1 : s.data.toList.length = s.size := rfl
      have hpf := parseS_facts HGF.out hrd (by omega)
      have hlg := lines_ge (parseS G l r).1
      have hsh := parseS_sh HGF.out gl (fun t ht => (HG1.out t ht).1) r hrd.2.1 (by rw [← hA, List.length_append]; omega)
      rw [← hA] at hsh
      have hAsz := tB_size A
      have hjr : Read (tBytes A ++ s).data.toList (A ++ l) r := by rw [join_data]; exact read_shift (read_tB (by rw [hA]; exact hla.2)) hrd
      have HPR := Lib.hid (fun wx (hx : T3 w0 u7 gl (.slice none 0 0) [] (.slice none 0 0) [] wx) => rprint_any HGF.out wx hx.2.1 (fun t ht => ⟨(HG1.out t ht).1, (HG1.out t ht).2.1⟩) (by omega))
      have HSI := Lib.hid (fun wx => signs_row (tBytes A) A wx (read_tB (by rw [hA]; exact hla.2)) (by omega))
      have HP2 := Lib.hid (fun wx => rparse_any HGF.out s l r wx hrd (by omega) (by omega))
      have hz : (tBytes A ++ s : ByteArray).size = (tBytes A).size + s.size := ByteArray.size_append
      have HP3 := Lib.hid (fun wx (hx : Below w.heap.size w wx) => parse_any HGF.out (tBytes A ++ s) (A ++ l) r wx hjr (by omega) (by rw [List.length_append]; omega) (HEs.out.below HEs.out.lt hx) (HMs.out.below hx))
      have g1 : ∀ w : World, (Op.stringOp .add (tBytes A) s).run Tryz.prog w = .ok (.string (tBytes A ++ s)) w := add_str _ _ (by omega)
      rw [hsh] at HP3
      rw [← hA] at HPR
      unfold ParseEnd at HP3
      unfold RParseEnd at HP2
      obtain ⟨us, n, c, hR⟩ : ∃ us n c, parseS G l r = (us, n, c) := ⟨_, _, _, rfl⟩
      rw [hR] at HP2 HP3 hpf hlg
      unfold shP at HP3
      dsimp only at HP2 HP3 hpf hlg
      have hus : us.length ≤ 2100 := by omega
      have HGK : Hid (∀ t ∈ gl ++ us, KeyTri t) := Lib.hid (fun t ht => by
        rcases List.mem_append.1 ht with h | h
        · exact (HG1.out t h).2.2.2
        · exact (hpf.1 t h).2.2)
      have hall : (gl ++ us).length ≤ 100000 := by rw [List.length_append]; omega
      have hgl2 : gl.length ≤ 10 := by omega
      have HN : Hid (c = 0 → n = 0) := Lib.hid (by have h := parseS_place G l r; rw [hR] at h; exact h.2)
      obtain ⟨N, hN⟩ : ∃ N, N = A.length := ⟨_, rfl⟩
      unfold SignsRes2 at HSI
      rw [← hN] at HSI HP3
      have hN2 : N ≤ 28170 := by omega
      have hnl : n ≤ 1000 := by have h := parseS_place G l r; rw [hR] at h; have h := h.1; dsimp only at h; omega
      generalize (tBytes A ++ s : ByteArray) = Z at *
      generalize tBytes A = ZA at *
      clear hgl hla hll e1 hpf hlg hsh hAsz hjr hz hR hN hA hAl hrd HT hgl0 hl10
      go_wp2_with fail
      refine (HPR.out _ HTF.out).mono ?_
      rintro e w4 ⟨rfl, hb4⟩
      have HT4 := Lib.hid (HTF.out.below hb4)
      clear hb4 HTF
      go_wp2_with fail
      refine (HSI.out _).mono ?_
      rintro e w5 ⟨sa, sc, rfl, -, hb5⟩
      have HT5 := Lib.hid (HT4.out.below hb5)
      clear hb5 HT4
      go_wp2_with fail
      refine (HP2.out _).mono ?_
      rintro e w6 ⟨V13, rfl, hv13, hb6⟩
      have HT6 := Lib.hid (HT5.out.below hb6)
      have HV6 := Lib.hid hv13
      have HB6 := Lib.hid (HB3.out.trans (HT6.out.1.mono HB3.out.size))
      clear hb6 HT5 hv13
      by_cases hc0 : c = 0
      · subst hc0
        have hn0 := HN.out rfl
        subst hn0
        rw [if_pos rfl] at HP3
        dsimp only at HP3
        go_wp2_with fail
        refine (HP3.out _ HB6.out).mono ?_
        rintro e w7 ⟨V16, rfl, hv16, hb7⟩
        have HT7 := Lib.hid (HT6.out.below hb7)
        have HV7 := Lib.hid (HV6.out.below hb7)
        have HB7 := Lib.hid (HB6.out.trans (hb7.mono HB6.out.size))
        have HK7 := Lib.hid hv16
        obtain ⟨va, vc, hva⟩ := HT7.out.2.1.form
        obtain ⟨ua, uc, hua⟩ := HV7.out.form
        subst hva
        subst hua
        clear hv16
        go_wp2_with (at_builtin; go_loud (refine wpList_append_guarded eltRTri _ (by first | rfl | kernel_rfl | (simp [Region.wanted, yielded])) (.tmp 94) (.tmp 95) rfl w0.heap.size w5.heap.size _ _ gl us rfl rfl HT7.out.2.1 HV7.out (by omega) HT7.out.1.size ?_; intro V8 w8 r8 q8 at8))
        have HB8 := Lib.hid (HB7.out.grown q8 HB7.out.size (fun k hk => Nat.le_trans HB3.out.size ((HT7.out.2.1.own_lt k hk).1)))
        have HK8 : Hid (TriRow w8 w6.heap.size V16 (gl ++ us)) := Lib.hid (HK7.out.kept2 q8 (fun k hk he => by have h1 := (HT7.out.2.1.own_lt k hk); have h2 := (HK7.out.own_lt k he).1; have h3 := (HT6.out.2.1.own_lt k hk).2; omega))
        have HIS := Lib.hid (is4_any _ _ V16 V8 (gl ++ us) w8 HK8.out r8 HGK.out hall)
        clear r8 q8 at8
        refine HIS.out.mono ?_
        rintro e w9 ⟨rfl, hb9⟩
        go_wp2_with fail
        go_ret
        exact ⟨rfl, HB8.out.trans (hb9.mono HB8.out.size)⟩
      · have t2 : (c != 0) = true := by simpa using hc0
        rw [if_neg hc0] at HP3
        dsimp only at HP3
        rw [show ((N + n : Nat) : Int) = (N : Int) + (n : Int) from by push_cast; rfl] at HP3
        clear hc0
        go_wp2_with fail
        refine (HP3.out _ HB6.out).mono ?_
        rintro e w7 ⟨V16, rfl, hv16, hb7⟩
        have HB7 := Lib.hid (HB6.out.trans (hb7.mono HB6.out.size))
        obtain ⟨xa, xc, hxa⟩ := hv16.form
        subst hxa
        clear hv16 hb7
        go_wp2_with fail
        go_ret
        exact ⟨by simp, HB7.out⟩
end Go.Proofs.YtbchkhjkajagfaaGreatDoor
