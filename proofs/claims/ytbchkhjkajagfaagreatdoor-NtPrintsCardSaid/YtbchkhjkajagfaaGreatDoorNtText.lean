/- Contracts over this seat's program: nt.Text, Triple's Text: a good term's signs, as bytes. -/
import Derived.Test.YtbchkhjkajagfaaGreatDoorNtRef
import Derived.Test.YtbchkhjkajagfaaGreatDoorNtMore
import Derived.Laws.Concat
namespace Go.Proofs.YtbchkhjkajagfaaGreatDoor
open Go Go.RowKit
set_option linter.unusedVariables false
set_option linter.unusedSimpArgs false
set_option maxRecDepth 100000
theorem add_str (a b : ByteArray) (h : a.size + b.size ≤ 9223372036854775807) (w : World) : (Op.stringOp .add a b).run Tryz.prog w = .ok (.string (a ++ b)) w := run_string_add_sum w a b h
theorem ba_size (a : ByteArray) : a.size = a.data.toList.length := rfl
theorem tB_data (l : List Int) : (tBytes l).data.toList = textB l := by unfold tBytes; simp
theorem sg_data {s : ByteArray} (h : Read s.data.toList (sg s) []) : textB (sg s) = s.data.toList := by
  have := h.1
  rw [List.append_nil] at this
  exact this.symm
theorem enc_lit {n : Int} {b : UInt8} (h : enc n = [b]) (l : List Int) : textB (n :: l) = b :: textB l := by rw [textB_cons, h]; rfl
theorem tx_iri {s : ByteArray} (h : Read s.data.toList (sg s) []) : (⟨#[60]⟩ ++ s) ++ ⟨#[62]⟩ = tBytes (tmS (.iri s)) := by
  refine ba_eq ?_
  rw [join_data, join_data, tB_data, tmS_iri, enc_lit (b := 60) (by decide), textB_append, sg_data h]
  rfl
theorem tx_blank {s : ByteArray} (h : Read s.data.toList (sg s) []) : ⟨#[95, 58]⟩ ++ s = tBytes (tmS (.blank s)) := by
  refine ba_eq ?_
  rw [join_data, tB_data, tmS_blank, enc_lit (b := 95) (by decide), enc_lit (b := 58) (by decide), sg_data h]
  rfl
theorem tx_lang {s t g : ByteArray} (hg : Read g.data.toList (sg g) []) (h0 : g.data.toList ≠ []) : (tBytes (qsigns (sg s)) ++ ⟨#[64]⟩) ++ g = tBytes (tmS (.lit s t g)) := by
  refine ba_eq ?_
  rw [join_data, join_data, tB_data, tB_data, tmS_lit, if_neg h0, textB_append, enc_lit (b := 64) (by decide), sg_data hg]
  simp
theorem tx_type {s t : ByteArray} (ht : Read t.data.toList (sg t) []) (h0 : t.data.toList ≠ ntString.data.toList) : ((tBytes (qsigns (sg s)) ++ ⟨#[94, 94, 60]⟩) ++ t) ++ ⟨#[62]⟩ = tBytes (tmS (.lit s t ⟨#[]⟩)) := by
  refine ba_eq ?_
  rw [join_data, join_data, join_data, tB_data, tB_data, tmS_lit, if_pos rfl, if_neg h0, textB_append, enc_lit (b := 94) (by decide), enc_lit (b := 94) (by decide), enc_lit (b := 60) (by decide), textB_append, sg_data ht]
  simp
  rfl
theorem tx_plain {s t : ByteArray} (h0 : t.data.toList = ntString.data.toList) : tBytes (qsigns (sg s)) = tBytes (tmS (.lit s t ⟨#[]⟩)) := by
  rw [tmS_lit, if_pos rfl, if_pos h0, List.append_nil]
theorem quote_sg {s : ByteArray} (h : Read s.data.toList (sg s) []) (hz : s.size ≤ 1000000) {w : World} (he : Esc w) : Calls Tryz.prog 39 #[.string s] w fun e w' => e = .returned (.string (tBytes (qsigns (sg s)))) ∧ Below w.heap.size w w' := by
  have := quote_any s (sg s) w h (by omega) he
  rw [← textB_q (sg s) h.2.1] at this
  exact this
theorem tq_size {s : ByteArray} (h : Read s.data.toList (sg s) []) (hz : s.size ≤ 1000000) : (tBytes (qsigns (sg s))).size ≤ 24000008 := by
  have h1 := tB_size (qsigns (sg s))
  have h2 := qsigns_le (sg s)
  have h3 : (sg s).length ≤ s.size := read_len h
  omega
theorem blk3f {w : World} {p : Nat} {a b c : Value} {T : TypeId} (h1 : w.heap[p]? = some (.cells #[a, b, c] T (0, 0))) : w.cell? ⟨p, 0, none⟩ = some a ∧ w.cell? ⟨p, 1, none⟩ = some b ∧ w.cell? ⟨p, 2, none⟩ = some c := ⟨(blk3 h1).1, (blk3 h1).2.1, (blk3 h1).2.2.1⟩
set_option maxHeartbeats 3200000 in
theorem text_good {X : Tm} (hX : GoodS X) (hz : Small X) (w : World) (he : Esc w) : Calls Tryz.prog 16 #[tmV X] w fun e w' => e = .returned (.string (tBytes (tmS X))) ∧ Below w.heap.size w w' := by
  cases X with
  | blank s =>
    obtain ⟨hr, _⟩ := hX
    show Calls Tryz.prog 16 #[.iface 82 (.agg #[.string s])] w _
    have hz0 : s.size ≤ 1000000 := hz.1
    have hE := tx_blank hr
    have t0 := ta_blank_Blank s
    have t1 := ta_blank_IRI s
    have t2 := ta_blank_Literal s
    have g1 : ∀ w : World, (Op.stringOp .add ⟨#[95, 58]⟩ s).run Tryz.prog w = .ok (.string (⟨#[95, 58]⟩ ++ s)) w := add_str _ _ (by rw [show (⟨#[95, 58]⟩ : ByteArray).size = 2 from rfl]; omega)
    rw [hE] at g1
    generalize tBytes (tmS (.blank s)) = Z at *
    clear hE hr hz he
    go_enter Tryz.func16, Tryz.ntmps16
    go_wp2_with fail
    go_ret
    exact ⟨rfl, by go_grown⟩
  | iri s =>
    obtain ⟨hr, _⟩ := hX
    show Calls Tryz.prog 16 #[.iface 80 (.agg #[.string s])] w _
    have hz0 : s.size ≤ 1000000 := hz.1
    have hE := tx_iri hr
    have t0 := ta_iri_Blank s
    have t1 := ta_iri_IRI s
    have t2 := ta_iri_Literal s
    have e1 : (⟨#[60]⟩ ++ s : ByteArray).size = 1 + s.size := by rw [ByteArray.size_append]; rfl
    have g1 : ∀ w : World, (Op.stringOp .add ⟨#[60]⟩ s).run Tryz.prog w = .ok (.string (⟨#[60]⟩ ++ s)) w := add_str _ _ (by rw [show (⟨#[60]⟩ : ByteArray).size = 1 from rfl]; omega)
    have g2 : ∀ w : World, (Op.stringOp .add (⟨#[60]⟩ ++ s) ⟨#[62]⟩).run Tryz.prog w = .ok (.string ((⟨#[60]⟩ ++ s) ++ ⟨#[62]⟩)) w := add_str _ _ (by rw [e1, show (⟨#[62]⟩ : ByteArray).size = 1 from rfl]; omega)
    rw [hE] at g2
    generalize tBytes (tmS (.iri s)) = Z at *
    generalize (⟨#[60]⟩ ++ s : ByteArray) = Y at *
    clear hE hr hz he e1
    go_enter Tryz.func16, Tryz.ntmps16
    go_wp2_with fail
    go_ret
    exact ⟨rfl, by go_grown⟩
  | lit s t g =>
    obtain ⟨hr, ht, _, hg⟩ := hX
    show Calls Tryz.prog 16 #[.iface 56 (.agg #[.string s, .string t, .string g])] w _
    obtain ⟨hz0, hz1, hz2⟩ := hz
    have hz0 : s.size ≤ 1000000 := hz0
    have hz1 : t.size ≤ 1000000 := hz1
    have hz2 : g.size ≤ 1000000 := hz2
    have t0 := ta_lit_Blank s t g
    have t1 := ta_lit_IRI s t g
    have t2 := ta_lit_Literal s t g
    obtain ⟨W1, hW1⟩ : ∃ W1, W1 = w.alloc (.cells #[.string s, .string t, .string g] 56) := ⟨_, rfl⟩
    have hb1 : Below w.heap.size w W1 := by rw [hW1]; exact (Below.refl _ _).alloc (Nat.le_refl _) _
    have hx1 : W1.heap[w.heap.size]? = some (.cells #[.string s, .string t, .string g] 56 (0, 0)) := by rw [hW1]; exact blk_new w _ _
    have HB1 := Lib.hid hb1
    have HX1 := Lib.hid hx1
    have HW1 := Lib.hid hW1
    have HQ : Hid (∀ w1, Below w.heap.size w w1 → Calls Tryz.prog 39 #[.string s] w1 fun e w' => e = .returned (.string (tBytes (qsigns (sg s)))) ∧ Below w1.heap.size w1 w') := Lib.hid (fun w1 hb => quote_sg hr hz0 (he.below he.lt hb))
    have hqz := tq_size hr hz0
    obtain ⟨c0, c1, c2⟩ := blk3f hx1
    rcases hg with ⟨hg0, hnl⟩ | ⟨hne, -, hgr, _⟩
    · have q1 : (g.toList == []) = true := by rw [hg0, Lib.toList_data]; rfl
      by_cases hst : t.data.toList = ntString.data.toList
      · have hE := tx_plain (s := s) hst
        rw [← hg0] at hE
        have q2 : (t.toList == [104, 116, 116, 112, 58, 47, 47, 119, 119, 119, 46, 119, 51, 46, 111, 114, 103, 47, 50, 48, 48, 49, 47, 88, 77, 76, 83, 99, 104, 101, 109, 97, 35, 115, 116, 114, 105, 110, 103]) = true := by rw [Lib.toList_data, hst]; decide
        rw [← hE]
        generalize tBytes (qsigns (sg s)) = Z at *
        clear hE hr he hg0 hnl hst hW1 hb1 hx1 ht
        go_enter Tryz.func16, Tryz.ntmps16
        go_wp2_with fail
        rw [← HW1.out]
        refine (HQ.out _ HB1.out).mono ?_
        rintro e w2 ⟨rfl, hb2⟩
        go_wp2_with fail
        go_ret
        exact ⟨rfl, HB1.out.trans (hb2.mono HB1.out.size)⟩
      · have hE := tx_type (s := s) ht hst
        rw [← hg0] at hE
        have q2 : (t.toList == [104, 116, 116, 112, 58, 47, 47, 119, 119, 119, 46, 119, 51, 46, 111, 114, 103, 47, 50, 48, 48, 49, 47, 88, 77, 76, 83, 99, 104, 101, 109, 97, 35, 115, 116, 114, 105, 110, 103]) = false := by
          rw [← Bool.not_eq_true]
          intro h
          rw [beq_iff_eq, Lib.toList_data] at h
          exact hst (h.trans rfl)
        obtain ⟨Q, hQ⟩ : ∃ Q, Q = tBytes (qsigns (sg s)) := ⟨_, rfl⟩
        rw [← hQ] at hE HQ hqz
        have e1 : (Q ++ ⟨#[94, 94, 60]⟩ : ByteArray).size = Q.size + 3 := by rw [ByteArray.size_append]; rfl
        have e2 : ((Q ++ ⟨#[94, 94, 60]⟩) ++ t : ByteArray).size = Q.size + 3 + t.size := by rw [ByteArray.size_append, e1]
        have g1 : ∀ w : World, (Op.stringOp .add Q ⟨#[94, 94, 60]⟩).run Tryz.prog w = .ok (.string (Q ++ ⟨#[94, 94, 60]⟩)) w := add_str _ _ (by rw [show (⟨#[94, 94, 60]⟩ : ByteArray).size = 3 from rfl]; omega)
        have g2 : ∀ w : World, (Op.stringOp .add (Q ++ ⟨#[94, 94, 60]⟩) t).run Tryz.prog w = .ok (.string ((Q ++ ⟨#[94, 94, 60]⟩) ++ t)) w := add_str _ _ (by omega)
        have g3 : ∀ w : World, (Op.stringOp .add ((Q ++ ⟨#[94, 94, 60]⟩) ++ t) ⟨#[62]⟩).run Tryz.prog w = .ok (.string (((Q ++ ⟨#[94, 94, 60]⟩) ++ t) ++ ⟨#[62]⟩)) w := add_str _ _ (by rw [e2, show (⟨#[62]⟩ : ByteArray).size = 1 from rfl]; omega)
        rw [hE] at g3
        generalize tBytes (tmS (.lit s t g)) = Z at *
        generalize ((Q ++ ⟨#[94, 94, 60]⟩) ++ t : ByteArray) = Y2 at *
        generalize (Q ++ ⟨#[94, 94, 60]⟩ : ByteArray) = Y1 at *
        clear hE hr he hg0 hnl hst hW1 hb1 hx1 ht hQ e1 e2
        go_enter Tryz.func16, Tryz.ntmps16
        go_wp2_with fail
        rw [← HW1.out]
        refine wp_region_held_drew (S := (fun w' => w'.heap[w.heap.size]? = some (.cells #[.string s, .string t, .string g] 56 (0, 0)))) (by kernel_rfl) ?hStxt0 (fun hHeld => ?_)
        case hStxt0 => exact HX1.out
        refine wpAnyH_take (i := 0) (oi := ⟨some 38, _, _, _, _, _⟩) (v := ?vtxt0) rfl (by kernel_rfl) (by kernel_rfl) (by kernel_rfl) (fun _ _ _ h => h) (Or.inl ⟨by kernel_rfl, ?ytxt0⟩) (by assumption) ?rtxt0
        case ytxt0 =>
          intro w hSw
          try dsimp only at hSw
          obtain ⟨c0, c1, c2⟩ := blk3f hSw
          first | (go_simp; done) | (go_simp; with_reducible rfl)
        try simp only [Act.put, List.setIfInBounds_toArray, List.set_cons_zero, List.set_cons_succ]
        refine wpAnyH_take (i := 1) (oi := ⟨some 39, _, _, _, _, _⟩) (v := ?vtxt1) rfl (by kernel_rfl) (by kernel_rfl) (by kernel_rfl) (fun _ _ _ h => h) (Or.inl ⟨by kernel_rfl, ?ytxt1⟩) (by assumption) ?rtxt1
        case ytxt1 =>
          intro w hSw
          try dsimp only at hSw
          obtain ⟨c0, c1, c2⟩ := blk3f hSw
          first | (go_simp; done) | (go_simp; with_reducible rfl)
        try simp only [Act.put, List.setIfInBounds_toArray, List.set_cons_zero, List.set_cons_succ]
        refine wpAnyH_take (i := 4) (oi := ⟨some 42, _, _, _, _, _⟩) (v := ?vtxt4) rfl (by kernel_rfl) (by kernel_rfl) (by kernel_rfl) (fun _ _ _ h => h) (Or.inl ⟨by kernel_rfl, ?ytxt4⟩) (by assumption) ?rtxt4
        case ytxt4 =>
          intro w hSw
          try dsimp only at hSw
          obtain ⟨c0, c1, c2⟩ := blk3f hSw
          first | (go_simp; done) | (go_simp; with_reducible rfl)
        try simp only [Act.put, List.setIfInBounds_toArray, List.set_cons_zero, List.set_cons_succ]
        refine wpAnyH_take (i := 5) (oi := ⟨some 43, _, _, _, _, _⟩) (v := ?vtxt5) rfl (by kernel_rfl) (by kernel_rfl) (by kernel_rfl) (fun _ _ _ h => h) (Or.inl ⟨by kernel_rfl, ?ytxt5⟩) (by assumption) ?rtxt5
        case ytxt5 =>
          intro w hSw
          try dsimp only at hSw
          obtain ⟨c0, c1, c2⟩ := blk3f hSw
          first | (go_simp; done) | (go_simp; with_reducible rfl)
        try simp only [Act.put, List.setIfInBounds_toArray, List.set_cons_zero, List.set_cons_succ]
        refine wpAnyH_ready (rs := [2]) (by kernel_rfl) (by simp) ?_
        refine AllReadyH.cons (i := 2) (o := ⟨some 40, _, _, _, _, _⟩) rfl (fun K hK => ?_) AllReadyH.nil
        go_simp
        refine (HQ.out _ (HB1.out.drew)).mono ?_
        rintro e w2 ⟨rfl, hb2⟩
        have HB2 := Lib.hid (HB1.out.drew.trans (hb2.mono (show w.heap.size ≤ W1.drew.heap.size from HB1.out.size)))
        go_wp2_with fail
        refine hK.out _ _ ?_ (fun hHeld => ?_)
        · exact blk_below (by assumption) hb2
        clear hK K
        try simp only [Act.put, List.setIfInBounds_toArray, List.set_cons_zero, List.set_cons_succ]
        refine wpAnyH_take (i := 3) (oi := ⟨some 41, _, _, _, _, _⟩) (v := ?vtxt3) rfl (by kernel_rfl) (by kernel_rfl) (by kernel_rfl) (fun _ _ _ h => h) (Or.inl ⟨by kernel_rfl, ?ytxt3⟩) (by assumption) ?rtxt3
        case ytxt3 =>
          intro w hSw
          try dsimp only at hSw
          obtain ⟨c0, c1, c2⟩ := blk3f hSw
          first | (go_simp; done) | (go_simp; with_reducible rfl)
        try simp only [Act.put, List.setIfInBounds_toArray, List.set_cons_zero, List.set_cons_succ]
        refine wpAnyH_take (i := 6) (oi := ⟨some 44, _, _, _, _, _⟩) (v := ?vtxt6) rfl (by kernel_rfl) (by kernel_rfl) (by kernel_rfl) (fun _ _ _ h => h) (Or.inl ⟨by kernel_rfl, ?ytxt6⟩) (by assumption) ?rtxt6
        case ytxt6 =>
          intro w hSw
          try dsimp only at hSw
          obtain ⟨c0, c1, c2⟩ := blk3f hSw
          first | (go_simp; done) | (go_simp; with_reducible rfl)
        try simp only [Act.put, List.setIfInBounds_toArray, List.set_cons_zero, List.set_cons_succ]
        refine wpAnyH_take (i := 7) (oi := ⟨some 45, _, _, _, _, _⟩) (v := ?vtxt7) rfl (by kernel_rfl) (by kernel_rfl) (by kernel_rfl) (fun _ _ _ h => h) (Or.inl ⟨by kernel_rfl, ?ytxt7⟩) (by assumption) ?rtxt7
        case ytxt7 =>
          intro w hSw
          try dsimp only at hSw
          obtain ⟨c0, c1, c2⟩ := blk3f hSw
          first | (go_simp; done) | (go_simp; with_reducible rfl)
        try simp only [Act.put, List.setIfInBounds_toArray, List.set_cons_zero, List.set_cons_succ]
        refine wpAnyH_take (i := 8) (oi := ⟨some 2, _, _, _, _, _⟩) (v := ?vtxt8) rfl (by kernel_rfl) (by kernel_rfl) (by kernel_rfl) (fun _ _ _ h => h) (Or.inl ⟨by kernel_rfl, ?ytxt8⟩) (by assumption) ?rtxt8
        case ytxt8 =>
          intro w hSw
          try dsimp only at hSw
          obtain ⟨c0, c1, c2⟩ := blk3f hSw
          first | (go_simp; done) | (go_simp; with_reducible rfl)
        try simp only [Act.put, List.setIfInBounds_toArray, List.set_cons_zero, List.set_cons_succ]
        refine wpAnyH_done (by kernel_rfl) ?_ _
        go_wp2_with fail
        go_ret
        exact ⟨rfl, HB2.out⟩
    · have hE := tx_lang (s := s) (t := t) hgr hne
      have q1 : (g.toList == []) = false := by
        rw [← Bool.not_eq_true]
        intro h
        rw [beq_iff_eq, Lib.toList_data] at h
        exact hne h
      obtain ⟨Q, hQ⟩ : ∃ Q, Q = tBytes (qsigns (sg s)) := ⟨_, rfl⟩
      rw [← hQ] at hE HQ hqz
      have e1 : (Q ++ ⟨#[64]⟩ : ByteArray).size = Q.size + 1 := by rw [ByteArray.size_append]; rfl
      have g1 : ∀ w : World, (Op.stringOp .add Q ⟨#[64]⟩).run Tryz.prog w = .ok (.string (Q ++ ⟨#[64]⟩)) w := add_str _ _ (by rw [show (⟨#[64]⟩ : ByteArray).size = 1 from rfl]; omega)
      have g2 : ∀ w : World, (Op.stringOp .add (Q ++ ⟨#[64]⟩) g).run Tryz.prog w = .ok (.string ((Q ++ ⟨#[64]⟩) ++ g)) w := add_str _ _ (by omega)
      rw [hE] at g2
      generalize tBytes (tmS (.lit s t g)) = Z at *
      generalize (Q ++ ⟨#[64]⟩ : ByteArray) = Y1 at *
      clear hE hr he hne hW1 hb1 hx1 ht hQ e1 hgr
      go_enter Tryz.func16, Tryz.ntmps16
      go_wp2_with fail
      rw [← HW1.out]
      refine wp_region_held_drew (S := (fun w' => w'.heap[w.heap.size]? = some (.cells #[.string s, .string t, .string g] 56 (0, 0)))) (by kernel_rfl) ?hStxl0 (fun hHeld => ?_)
      case hStxl0 => exact HX1.out
      refine wpAnyH_take (i := 0) (oi := ⟨some 27, _, _, _, _, _⟩) (v := ?vtxl0) rfl (by kernel_rfl) (by kernel_rfl) (by kernel_rfl) (fun _ _ _ h => h) (Or.inl ⟨by kernel_rfl, ?ytxl0⟩) (by assumption) ?rtxl0
      case ytxl0 =>
        intro w hSw
        try dsimp only at hSw
        obtain ⟨c0, c1, c2⟩ := blk3f hSw
        first | (go_simp; done) | (go_simp; with_reducible rfl)
      try simp only [Act.put, List.setIfInBounds_toArray, List.set_cons_zero, List.set_cons_succ]
      refine wpAnyH_take (i := 1) (oi := ⟨some 28, _, _, _, _, _⟩) (v := ?vtxl1) rfl (by kernel_rfl) (by kernel_rfl) (by kernel_rfl) (fun _ _ _ h => h) (Or.inl ⟨by kernel_rfl, ?ytxl1⟩) (by assumption) ?rtxl1
      case ytxl1 =>
        intro w hSw
        try dsimp only at hSw
        obtain ⟨c0, c1, c2⟩ := blk3f hSw
        first | (go_simp; done) | (go_simp; with_reducible rfl)
      try simp only [Act.put, List.setIfInBounds_toArray, List.set_cons_zero, List.set_cons_succ]
      refine wpAnyH_take (i := 4) (oi := ⟨some 31, _, _, _, _, _⟩) (v := ?vtxl4) rfl (by kernel_rfl) (by kernel_rfl) (by kernel_rfl) (fun _ _ _ h => h) (Or.inl ⟨by kernel_rfl, ?ytxl4⟩) (by assumption) ?rtxl4
      case ytxl4 =>
        intro w hSw
        try dsimp only at hSw
        obtain ⟨c0, c1, c2⟩ := blk3f hSw
        first | (go_simp; done) | (go_simp; with_reducible rfl)
      try simp only [Act.put, List.setIfInBounds_toArray, List.set_cons_zero, List.set_cons_succ]
      refine wpAnyH_take (i := 5) (oi := ⟨some 32, _, _, _, _, _⟩) (v := ?vtxl5) rfl (by kernel_rfl) (by kernel_rfl) (by kernel_rfl) (fun _ _ _ h => h) (Or.inl ⟨by kernel_rfl, ?ytxl5⟩) (by assumption) ?rtxl5
      case ytxl5 =>
        intro w hSw
        try dsimp only at hSw
        obtain ⟨c0, c1, c2⟩ := blk3f hSw
        first | (go_simp; done) | (go_simp; with_reducible rfl)
      try simp only [Act.put, List.setIfInBounds_toArray, List.set_cons_zero, List.set_cons_succ]
      refine wpAnyH_ready (rs := [2]) (by kernel_rfl) (by simp) ?_
      refine AllReadyH.cons (i := 2) (o := ⟨some 29, _, _, _, _, _⟩) rfl (fun K hK => ?_) AllReadyH.nil
      go_simp
      refine (HQ.out _ (HB1.out.drew)).mono ?_
      rintro e w2 ⟨rfl, hb2⟩
      have HB2 := Lib.hid (HB1.out.drew.trans (hb2.mono (show w.heap.size ≤ W1.drew.heap.size from HB1.out.size)))
      go_wp2_with fail
      refine hK.out _ _ ?_ (fun hHeld => ?_)
      · exact blk_below (by assumption) hb2
      clear hK K
      try simp only [Act.put, List.setIfInBounds_toArray, List.set_cons_zero, List.set_cons_succ]
      refine wpAnyH_take (i := 3) (oi := ⟨some 30, _, _, _, _, _⟩) (v := ?vtxl3) rfl (by kernel_rfl) (by kernel_rfl) (by kernel_rfl) (fun _ _ _ h => h) (Or.inl ⟨by kernel_rfl, ?ytxl3⟩) (by assumption) ?rtxl3
      case ytxl3 =>
        intro w hSw
        try dsimp only at hSw
        obtain ⟨c0, c1, c2⟩ := blk3f hSw
        first | (go_simp; done) | (go_simp; with_reducible rfl)
      try simp only [Act.put, List.setIfInBounds_toArray, List.set_cons_zero, List.set_cons_succ]
      refine wpAnyH_take (i := 6) (oi := ⟨some 33, _, _, _, _, _⟩) (v := ?vtxl6) rfl (by kernel_rfl) (by kernel_rfl) (by kernel_rfl) (fun _ _ _ h => h) (Or.inl ⟨by kernel_rfl, ?ytxl6⟩) (by assumption) ?rtxl6
      case ytxl6 =>
        intro w hSw
        try dsimp only at hSw
        obtain ⟨c0, c1, c2⟩ := blk3f hSw
        first | (go_simp; done) | (go_simp; with_reducible rfl)
      try simp only [Act.put, List.setIfInBounds_toArray, List.set_cons_zero, List.set_cons_succ]
      refine wpAnyH_take (i := 7) (oi := ⟨some 2, _, _, _, _, _⟩) (v := ?vtxl7) rfl (by kernel_rfl) (by kernel_rfl) (by kernel_rfl) (fun _ _ _ h => h) (Or.inl ⟨by kernel_rfl, ?ytxl7⟩) (by assumption) ?rtxl7
      case ytxl7 =>
        intro w hSw
        try dsimp only at hSw
        obtain ⟨c0, c1, c2⟩ := blk3f hSw
        first | (go_simp; done) | (go_simp; with_reducible rfl)
      try simp only [Act.put, List.setIfInBounds_toArray, List.set_cons_zero, List.set_cons_succ]
      refine wpAnyH_done (by kernel_rfl) ?_ _
      go_wp2_with fail
      go_ret
      exact ⟨rfl, HB2.out⟩
  | odd n => exact hX.elim
  | none => exact hX.elim
end Go.Proofs.YtbchkhjkajagfaaGreatDoor
