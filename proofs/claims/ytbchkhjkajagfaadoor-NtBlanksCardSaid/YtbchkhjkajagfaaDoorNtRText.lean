/- Contracts over this seat's program: the document's Text, Print. -/
import Derived.Test.YtbchkhjkajagfaaDoorNtPrint
import Derived.Test.YtbchkhjkajagfaaDoorNtRRead
import Derived.Test.YtbchkhjkajagfaaDoorScRQuote
namespace Go.Proofs.YtbchkhjkajagfaaDoor
open Go Go.RowKit
set_option linter.unusedVariables false
set_option linter.unusedSimpArgs false
set_option maxRecDepth 100000
theorem rquote_sg {s : ByteArray} {a : Option Addr} {c : Nat} {w : World} (hr : Read s.data.toList (sg s) []) (h : SgRow (sg s) a c w) (hq : (sg s).length ≤ 100000) : Calls Tryd.prog 73 #[.slice a (sg s).length c] w fun e w' => e = .returned (.string (tBytes (qsigns (sg s)))) ∧ Below w.heap.size w w' := by
  have := rquote_any (sg s) w.heap.size c a w h.rcls hr.2.1 hq
  rw [← textB_q (sg s) hr.2.1] at this
  exact this
set_option maxHeartbeats 6400000 in
theorem rtext_good {X : Tm} (hX : GoodS X) (hz : Small X) (hq : (sg (text0 X)).length ≤ 100000) (w : World) : Calls Tryd.prog 42 #[refT X] w fun e w' => e = .returned (.string (tBytes (tmS X))) ∧ Below w.heap.size w w' := by
  cases X with
  | blank s =>
    obtain ⟨hr, _⟩ := hX
    show Calls Tryd.prog 42 #[.agg #[.int .i64 0, .string s, .string ⟨#[]⟩, .string ⟨#[]⟩]] w _
    have hz0 : s.size ≤ 1000000 := hz.1
    have hE := tx_blank hr
    have g1 : ∀ w : World, (Op.stringOp .add ⟨#[95, 58]⟩ s).run Tryd.prog w = .ok (.string (⟨#[95, 58]⟩ ++ s)) w := add_str _ _ (by rw [show (⟨#[95, 58]⟩ : ByteArray).size = 2 from rfl]; omega)
    rw [hE] at g1
    generalize tBytes (tmS (.blank s)) = Z at *
    clear hE hr hz hq
    go_enter Tryd.func42, Tryd.ntmps42
    go_wp2_with fail
    go_ret
    exact ⟨rfl, by go_grown⟩
  | iri s =>
    obtain ⟨hr, _⟩ := hX
    show Calls Tryd.prog 42 #[.agg #[.int .i64 1, .string s, .string ⟨#[]⟩, .string ⟨#[]⟩]] w _
    have hz0 : s.size ≤ 1000000 := hz.1
    have hE := tx_iri hr
    have e1 : (⟨#[60]⟩ ++ s : ByteArray).size = 1 + s.size := by rw [ByteArray.size_append]; rfl
    have g1 : ∀ w : World, (Op.stringOp .add ⟨#[60]⟩ s).run Tryd.prog w = .ok (.string (⟨#[60]⟩ ++ s)) w := add_str _ _ (by rw [show (⟨#[60]⟩ : ByteArray).size = 1 from rfl]; omega)
    have g2 : ∀ w : World, (Op.stringOp .add (⟨#[60]⟩ ++ s) ⟨#[62]⟩).run Tryd.prog w = .ok (.string ((⟨#[60]⟩ ++ s) ++ ⟨#[62]⟩)) w := add_str _ _ (by rw [e1, show (⟨#[62]⟩ : ByteArray).size = 1 from rfl]; omega)
    rw [hE] at g2
    generalize tBytes (tmS (.iri s)) = Z at *
    generalize (⟨#[60]⟩ ++ s : ByteArray) = Y at *
    clear hE hr hz hq e1
    go_enter Tryd.func42, Tryd.ntmps42
    go_wp2_with fail
    go_ret
    exact ⟨rfl, by go_grown⟩
  | lit s t g =>
    obtain ⟨hr, ht, _, hg⟩ := hX
    show Calls Tryd.prog 42 #[.agg #[.int .i64 2, .string s, .string t, .string g]] w _
    obtain ⟨hz0, hz1, hz2⟩ := hz
    have hz0 : s.size ≤ 1000000 := hz0
    have hz1 : t.size ≤ 1000000 := hz1
    have hz2 : g.size ≤ 1000000 := hz2
    have hq : (sg s).length ≤ 100000 := hq
    obtain ⟨W1, hW1⟩ : ∃ W1, W1 = w.alloc (.cells #[.int .i64 2, .string s, .string t, .string g] 36) := ⟨_, rfl⟩
    have hx1 : W1.heap[w.heap.size]? = some (.cells #[.int .i64 2, .string s, .string t, .string g] 36 (0, 0)) := by rw [hW1]; exact blk_new w _ _
    have HB1 : Hid (Below w.heap.size w W1) := Lib.hid (by rw [hW1]; exact (Below.refl _ _).alloc (Nat.le_refl _) _)
    have HX1 := Lib.hid hx1
    have HW1 := Lib.hid hW1
    have HSI := Lib.hid (fun w => signs_row s (sg s) w hr (by omega))
    have HQ := Lib.hid (fun a c w (h : SgRow (sg s) a c w) => rquote_sg hr h hq)
    have hqz := tq_size hr hz0
    obtain ⟨c0, c1, c2, c3, -⟩ := blk4 hx1
    rcases hg with ⟨hg0, hnl⟩ | ⟨hne, -, hgr, _⟩
    · have q1 : (g.toList == []) = true := by rw [hg0, Lib.toList_data]; rfl
      by_cases hst : t.data.toList = ntString.data.toList
      · have hE := tx_plain (s := s) hst
        rw [← hg0] at hE
        have q2 : (t.toList == [104, 116, 116, 112, 58, 47, 47, 119, 119, 119, 46, 119, 51, 46, 111, 114, 103, 47, 50, 48, 48, 49, 47, 88, 77, 76, 83, 99, 104, 101, 109, 97, 35, 115, 116, 114, 105, 110, 103]) = true := by rw [Lib.toList_data, hst]; decide
        rw [← hE]
        generalize tBytes (qsigns (sg s)) = Z at *
        clear hE hr hg0 hnl hst hW1 hx1 ht
        go_enter Tryd.func42, Tryd.ntmps42
        go_wp2_with fail
        rw [← HW1.out]
        refine (HSI.out _).mono ?_
        rintro e w2 ⟨ra, rc, rfl, hrow, hb2⟩
        have HB2 := Lib.hid (HB1.out.trans (hb2.mono HB1.out.size))
        have HX2 := Lib.hid (blk_below HX1.out hb2)
        have HQ2 := Lib.hid (HQ.out _ _ _ hrow)
        clear hrow hb2
        go_wp2_with fail
        refine HQ2.out.mono ?_
        rintro e w3 ⟨rfl, hb3⟩
        have HB3 := Lib.hid (HB2.out.trans (hb3.mono HB2.out.size))
        have HX3 := Lib.hid (blk_below HX2.out hb3)
        obtain ⟨d0, d1, d2, d3, -⟩ := blk4 HX3.out
        clear hb3 HX2 HB2 HQ2
        go_wp2_with fail
        go_ret
        exact ⟨rfl, HB3.out⟩
      · have hE := tx_type (s := s) ht hst
        rw [← hg0] at hE
        have q2 : (t.toList == [104, 116, 116, 112, 58, 47, 47, 119, 119, 119, 46, 119, 51, 46, 111, 114, 103, 47, 50, 48, 48, 49, 47, 88, 77, 76, 83, 99, 104, 101, 109, 97, 35, 115, 116, 114, 105, 110, 103]) = false := by
          rw [← Bool.not_eq_true]
          intro h
          rw [beq_iff_eq, Lib.toList_data] at h
          exact hst (h.trans rfl)
        obtain ⟨Q, hQ⟩ : ∃ Q, Q = tBytes (qsigns (sg s)) := ⟨_, rfl⟩
        rw [← hQ] at hE HQ hqz
        have e1 : (Q ++ ⟨#[94, 94, 60]⟩ : ByteArray).size = Q.size + 3 := by rw [ByteArray.size_append]; rfl
        have e2 : ((Q ++ ⟨#[94, 94, 60]⟩) ++ t : ByteArray).size = Q.size + 3 + t.size := by rw [ByteArray.size_append, e1]
        have g1 : ∀ w : World, (Op.stringOp .add Q ⟨#[94, 94, 60]⟩).run Tryd.prog w = .ok (.string (Q ++ ⟨#[94, 94, 60]⟩)) w := add_str _ _ (by rw [show (⟨#[94, 94, 60]⟩ : ByteArray).size = 3 from rfl]; omega)
        have g2 : ∀ w : World, (Op.stringOp .add (Q ++ ⟨#[94, 94, 60]⟩) t).run Tryd.prog w = .ok (.string ((Q ++ ⟨#[94, 94, 60]⟩) ++ t)) w := add_str _ _ (by omega)
        have g3 : ∀ w : World, (Op.stringOp .add ((Q ++ ⟨#[94, 94, 60]⟩) ++ t) ⟨#[62]⟩).run Tryd.prog w = .ok (.string (((Q ++ ⟨#[94, 94, 60]⟩) ++ t) ++ ⟨#[62]⟩)) w := add_str _ _ (by rw [e2, show (⟨#[62]⟩ : ByteArray).size = 1 from rfl]; omega)
        rw [hE] at g3
        generalize tBytes (tmS (.lit s t g)) = Z at *
        generalize ((Q ++ ⟨#[94, 94, 60]⟩) ++ t : ByteArray) = Y2 at *
        generalize (Q ++ ⟨#[94, 94, 60]⟩ : ByteArray) = Y1 at *
        clear hE hr hg0 hnl hst hW1 hx1 ht hQ e1 e2
        go_enter Tryd.func42, Tryd.ntmps42
        go_wp2_with fail
        rw [← HW1.out]
        refine (HSI.out _).mono ?_
        rintro e w2 ⟨ra, rc, rfl, hrow, hb2⟩
        have HB2 := Lib.hid (HB1.out.trans (hb2.mono HB1.out.size))
        have HX2 := Lib.hid (blk_below HX1.out hb2)
        have HQ2 := Lib.hid (HQ.out _ _ _ hrow)
        clear hrow hb2
        go_wp2_with fail
        refine HQ2.out.mono ?_
        rintro e w3 ⟨rfl, hb3⟩
        have HB3 := Lib.hid (HB2.out.trans (hb3.mono HB2.out.size))
        have HX3 := Lib.hid (blk_below HX2.out hb3)
        obtain ⟨d0, d1, d2, d3, -⟩ := blk4 HX3.out
        clear hb3 HX2 HB2 HQ2
        go_wp2_with fail
        go_ret
        exact ⟨rfl, HB3.out⟩
    · have hE := tx_lang (s := s) (t := t) hgr hne
      have q1 : (g.toList == []) = false := by
        rw [← Bool.not_eq_true]
        intro h
        rw [beq_iff_eq, Lib.toList_data] at h
        exact hne h
      obtain ⟨Q, hQ⟩ : ∃ Q, Q = tBytes (qsigns (sg s)) := ⟨_, rfl⟩
      rw [← hQ] at hE HQ hqz
      have e1 : (Q ++ ⟨#[64]⟩ : ByteArray).size = Q.size + 1 := by rw [ByteArray.size_append]; rfl
      have g1 : ∀ w : World, (Op.stringOp .add Q ⟨#[64]⟩).run Tryd.prog w = .ok (.string (Q ++ ⟨#[64]⟩)) w := add_str _ _ (by rw [show (⟨#[64]⟩ : ByteArray).size = 1 from rfl]; omega)
      have g2 : ∀ w : World, (Op.stringOp .add (Q ++ ⟨#[64]⟩) g).run Tryd.prog w = .ok (.string ((Q ++ ⟨#[64]⟩) ++ g)) w := add_str _ _ (by omega)
      rw [hE] at g2
      generalize tBytes (tmS (.lit s t g)) = Z at *
      generalize (Q ++ ⟨#[64]⟩ : ByteArray) = Y1 at *
      clear hE hr hne hW1 hx1 ht hQ e1 hgr
      go_enter Tryd.func42, Tryd.ntmps42
      go_wp2_with fail
      rw [← HW1.out]
      refine (HSI.out _).mono ?_
      rintro e w2 ⟨ra, rc, rfl, hrow, hb2⟩
      have HB2 := Lib.hid (HB1.out.trans (hb2.mono HB1.out.size))
      have HX2 := Lib.hid (blk_below HX1.out hb2)
      have HQ2 := Lib.hid (HQ.out _ _ _ hrow)
      clear hrow hb2
      go_wp2_with fail
      refine HQ2.out.mono ?_
      rintro e w3 ⟨rfl, hb3⟩
      have HB3 := Lib.hid (HB2.out.trans (hb3.mono HB2.out.size))
      have HX3 := Lib.hid (blk_below HX2.out hb3)
      obtain ⟨d0, d1, d2, d3, -⟩ := blk4 HX3.out
      clear hb3 HX2 HB2 HQ2
      go_wp2_with fail
      go_ret
      exact ⟨rfl, HB3.out⟩
  | odd n => exact hX.elim
  | none => exact hX.elim
/-- a good literal's text is short -/
theorem good_len {G : Tm → Bool} (hG : GoodFn G) {X : Tm} (hz : Small X) (h : G X = true) : (sg (text0 X)).length ≤ 100000 := by
  obtain ⟨l1, r1, h1⟩ := read_some (text0 X).data.toList
  obtain ⟨l2, r2, h2⟩ := read_some (text1 X).data.toList
  have hs := (good_signs hG hz h).2
  have h0 := h
  rw [(hG X hz).2.2.2 l1 r1 l2 r2 h1 h2] at h
  cases X with
  | blank s =>
    have h : labV s.data.toList = true := h
    unfold labV at h
    simp only [Bool.and_eq_true, decide_eq_true_eq] at h
    have h3 : (sg s).length ≤ s.size := read_len hs.1
    have : s.data.toList.length = s.size := rfl
    show (sg s).length ≤ _
    omega
  | iri s =>
    have h : iriV s l1 r1 = true := h
    unfold iriV at h
    simp only [Bool.and_eq_true, decide_eq_true_eq] at h
    have h3 : (sg s).length ≤ s.size := read_len hs.1
    show (sg s).length ≤ _
    omega
  | lit s t g =>
    have h : litG s r1 t l2 r2 g = true := h
    unfold litG at h
    simp only [Bool.and_eq_true, decide_eq_true_eq] at h
    have h3 : (sg s).length ≤ s.size := read_len hs.1
    show (sg s).length ≤ _
    omega
  | odd n => cases h
  | none => cases h
end Go.Proofs.YtbchkhjkajagfaaDoor
