/- Contracts over this seat's program: the document's Text, Print. Contract over this seat's program: the document's Print. The law NtPrints: its walk. Every row of triples. -/
import Derived.Test.YtbchkhjkajagfaaGreatDoorNtPrint
import Derived.Test.YtbchkhjkajagfaaGreatDoorNtRRead
import Derived.Test.YtbchkhjkajagfaaGreatDoorScRQuote
import Derived.Test.YtbchkhjkajagfaaGreatDoorNtParses
namespace Go.Proofs.YtbchkhjkajagfaaGreatDoor
open Go Go.RowKit
set_option linter.unusedVariables false
set_option linter.unusedSimpArgs false
set_option maxRecDepth 100000
theorem rquote_sg {s : ByteArray} {a : Option Addr} {c : Nat} {w : World} (hr : Read s.data.toList (sg s) []) (h : SgRow (sg s) a c w) (hq : (sg s).length ≤ 100000) : Calls Tryz.prog 40 #[.slice a (sg s).length c] w fun e w' => e = .returned (.string (tBytes (qsigns (sg s)))) ∧ Below w.heap.size w w' := by
  have := rquote_any (sg s) w.heap.size c a w h.rcls hr.2.1 hq
  rw [← textB_q (sg s) hr.2.1] at this
  exact this
set_option maxHeartbeats 6400000 in
theorem rtext_good {X : Tm} (hX : GoodS X) (hz : Small X) (hq : (sg (text0 X)).length ≤ 100000) (w : World) : Calls Tryz.prog 17 #[refT X] w fun e w' => e = .returned (.string (tBytes (tmS X))) ∧ Below w.heap.size w w' := by
  cases X with
  | blank s =>
    obtain ⟨hr, _⟩ := hX
    show Calls Tryz.prog 17 #[.agg #[.int .i64 0, .string s, .string ⟨#[]⟩, .string ⟨#[]⟩]] w _
    have hz0 : s.size ≤ 1000000 := hz.1
    have hE := tx_blank hr
    have g1 : ∀ w : World, (Op.stringOp .add ⟨#[95, 58]⟩ s).run Tryz.prog w = .ok (.string (⟨#[95, 58]⟩ ++ s)) w := add_str _ _ (by rw [show (⟨#[95, 58]⟩ : ByteArray).size = 2 from rfl]; omega)
    rw [hE] at g1
    generalize tBytes (tmS (.blank s)) = Z at *
    clear hE hr hz hq
    go_enter Tryz.func17, Tryz.ntmps17
    go_wp2_with fail
    go_ret
    exact ⟨rfl, by go_grown⟩
  | iri s =>
    obtain ⟨hr, _⟩ := hX
    show Calls Tryz.prog 17 #[.agg #[.int .i64 1, .string s, .string ⟨#[]⟩, .string ⟨#[]⟩]] w _
    have hz0 : s.size ≤ 1000000 := hz.1
    have hE := tx_iri hr
    have e1 : (⟨#[60]⟩ ++ s : ByteArray).size = 1 + s.size := by rw [ByteArray.size_append]; rfl
    have g1 : ∀ w : World, (Op.stringOp .add ⟨#[60]⟩ s).run Tryz.prog w = .ok (.string (⟨#[60]⟩ ++ s)) w := add_str _ _ (by rw [show (⟨#[60]⟩ : ByteArray).size = 1 from rfl]; omega)
    have g2 : ∀ w : World, (Op.stringOp .add (⟨#[60]⟩ ++ s) ⟨#[62]⟩).run Tryz.prog w = .ok (.string ((⟨#[60]⟩ ++ s) ++ ⟨#[62]⟩)) w := add_str _ _ (by rw [e1, show (⟨#[62]⟩ : ByteArray).size = 1 from rfl]; omega)
    rw [hE] at g2
    generalize tBytes (tmS (.iri s)) = Z at *
    generalize (⟨#[60]⟩ ++ s : ByteArray) = Y at *
    clear hE hr hz hq e1
    go_enter Tryz.func17, Tryz.ntmps17
    go_wp2_with fail
    go_ret
    exact ⟨rfl, by go_grown⟩
  | lit s t g =>
    obtain ⟨hr, ht, _, hg⟩ := hX
    show Calls Tryz.prog 17 #[.agg #[.int .i64 2, .string s, .string t, .string g]] w _
    obtain ⟨hz0, hz1, hz2⟩ := hz
    have hz0 : s.size ≤ 1000000 := hz0
    have hz1 : t.size ≤ 1000000 := hz1
    have hz2 : g.size ≤ 1000000 := hz2
    have hq : (sg s).length ≤ 100000 := hq
    obtain ⟨W1, hW1⟩ : ∃ W1, W1 = w.alloc (.cells #[.int .i64 2, .string s, .string t, .string g] 27) := ⟨_, rfl⟩
    have hx1 : W1.heap[w.heap.size]? = some (.cells #[.int .i64 2, .string s, .string t, .string g] 27 (0, 0)) := by rw [hW1]; exact blk_new w _ _
    have HB1 : Hid (Below w.heap.size w W1) := Lib.hid (by rw [hW1]; exact (Below.refl _ _).alloc (Nat.le_refl _) _)
    have HX1 := Lib.hid hx1
    have HW1 := Lib.hid hW1
    have HSI := Lib.hid (fun w => signs_row s (sg s) w hr (by omega))
    have HQ := Lib.hid (fun a c w (h : SgRow (sg s) a c w) => rquote_sg hr h hq)
    have hqz := tq_size hr hz0
    obtain ⟨c0, c1, c2, c3, -⟩ := blk4 hx1
    rcases hg with ⟨hg0, hnl⟩ | ⟨hne, -, hgr, _⟩
    · have q1 : (g.toList == []) = true := by rw [hg0, Lib.toList_data]; rfl
      by_cases hst : t.data.toList = ntString.data.toList
      · have hE := tx_plain (s := s) hst
        rw [← hg0] at hE
        have q2 : (t.toList == [104, 116, 116, 112, 58, 47, 47, 119, 119, 119, 46, 119, 51, 46, 111, 114, 103, 47, 50, 48, 48, 49, 47, 88, 77, 76, 83, 99, 104, 101, 109, 97, 35, 115, 116, 114, 105, 110, 103]) = true := by rw [Lib.toList_data, hst]; decide
        rw [← hE]
        generalize tBytes (qsigns (sg s)) = Z at *
        clear hE hr hg0 hnl hst hW1 hx1 ht
        go_enter Tryz.func17, Tryz.ntmps17
        go_wp2_with fail
        rw [← HW1.out]
        refine (HSI.out _).mono ?_
        rintro e w2 ⟨ra, rc, rfl, hrow, hb2⟩
        have HB2 := Lib.hid (HB1.out.trans (hb2.mono HB1.out.size))
        have HX2 := Lib.hid (blk_below HX1.out hb2)
        have HQ2 := Lib.hid (HQ.out _ _ _ hrow)
        clear hrow hb2
        go_wp2_with fail
        refine HQ2.out.mono ?_
        rintro e w3 ⟨rfl, hb3⟩
        have HB3 := Lib.hid (HB2.out.trans (hb3.mono HB2.out.size))
        have HX3 := Lib.hid (blk_below HX2.out hb3)
        obtain ⟨d0, d1, d2, d3, -⟩ := blk4 HX3.out
        clear hb3 HX2 HB2 HQ2
        go_wp2_with fail
        go_ret
        exact ⟨rfl, HB3.out⟩
      · have hE := tx_type (s := s) ht hst
        rw [← hg0] at hE
        have q2 : (t.toList == [104, 116, 116, 112, 58, 47, 47, 119, 119, 119, 46, 119, 51, 46, 111, 114, 103, 47, 50, 48, 48, 49, 47, 88, 77, 76, 83, 99, 104, 101, 109, 97, 35, 115, 116, 114, 105, 110, 103]) = false := by
          rw [← Bool.not_eq_true]
          intro h
          rw [beq_iff_eq, Lib.toList_data] at h
          exact hst (h.trans rfl)
        obtain ⟨Q, hQ⟩ : ∃ Q, Q = tBytes (qsigns (sg s)) := ⟨_, rfl⟩
        rw [← hQ] at hE HQ hqz
        have e1 : (Q ++ ⟨#[94, 94, 60]⟩ : ByteArray).size = Q.size + 3 := by rw [ByteArray.size_append]; rfl
        have e2 : ((Q ++ ⟨#[94, 94, 60]⟩) ++ t : ByteArray).size = Q.size + 3 + t.size := by rw [ByteArray.size_append, e1]
        have g1 : ∀ w : World, (Op.stringOp .add Q ⟨#[94, 94, 60]⟩).run Tryz.prog w = .ok (.string (Q ++ ⟨#[94, 94, 60]⟩)) w := add_str _ _ (by rw [show (⟨#[94, 94, 60]⟩ : ByteArray).size = 3 from rfl]; omega)
        have g2 : ∀ w : World, (Op.stringOp .add (Q ++ ⟨#[94, 94, 60]⟩) t).run Tryz.prog w = .ok (.string ((Q ++ ⟨#[94, 94, 60]⟩) ++ t)) w := add_str _ _ (by omega)
        have g3 : ∀ w : World, (Op.stringOp .add ((Q ++ ⟨#[94, 94, 60]⟩) ++ t) ⟨#[62]⟩).run Tryz.prog w = .ok (.string (((Q ++ ⟨#[94, 94, 60]⟩) ++ t) ++ ⟨#[62]⟩)) w := add_str _ _ (by rw [e2, show (⟨#[62]⟩ : ByteArray).size = 1 from rfl]; omega)
        rw [hE] at g3
        generalize tBytes (tmS (.lit s t g)) = Z at *
        generalize ((Q ++ ⟨#[94, 94, 60]⟩) ++ t : ByteArray) = Y2 at *
        generalize (Q ++ ⟨#[94, 94, 60]⟩ : ByteArray) = Y1 at *
        clear hE hr hg0 hnl hst hW1 hx1 ht hQ e1 e2
        go_enter Tryz.func17, Tryz.ntmps17
        go_wp2_with fail
        rw [← HW1.out]
        refine (HSI.out _).mono ?_
        rintro e w2 ⟨ra, rc, rfl, hrow, hb2⟩
        have HB2 := Lib.hid (HB1.out.trans (hb2.mono HB1.out.size))
        have HX2 := Lib.hid (blk_below HX1.out hb2)
        have HQ2 := Lib.hid (HQ.out _ _ _ hrow)
        clear hrow hb2
        go_wp2_with fail
        refine HQ2.out.mono ?_
        rintro e w3 ⟨rfl, hb3⟩
        have HB3 := Lib.hid (HB2.out.trans (hb3.mono HB2.out.size))
        have HX3 := Lib.hid (blk_below HX2.out hb3)
        obtain ⟨d0, d1, d2, d3, -⟩ := blk4 HX3.out
        clear hb3 HX2 HB2 HQ2
        go_wp2_with fail
        go_ret
        exact ⟨rfl, HB3.out⟩
    · have hE := tx_lang (s := s) (t := t) hgr hne
      have q1 : (g.toList == []) = false := by
        rw [← Bool.not_eq_true]
        intro h
        rw [beq_iff_eq, Lib.toList_data] at h
        exact hne h
      obtain ⟨Q, hQ⟩ : ∃ Q, Q = tBytes (qsigns (sg s)) := ⟨_, rfl⟩
      rw [← hQ] at hE HQ hqz
      have e1 : (Q ++ ⟨#[64]⟩ : ByteArray).size = Q.size + 1 := by rw [ByteArray.size_append]; rfl
      have g1 : ∀ w : World, (Op.stringOp .add Q ⟨#[64]⟩).run Tryz.prog w = .ok (.string (Q ++ ⟨#[64]⟩)) w := add_str _ _ (by rw [show (⟨#[64]⟩ : ByteArray).size = 1 from rfl]; omega)
      have g2 : ∀ w : World, (Op.stringOp .add (Q ++ ⟨#[64]⟩) g).run Tryz.prog w = .ok (.string ((Q ++ ⟨#[64]⟩) ++ g)) w := add_str _ _ (by omega)
      rw [hE] at g2
      generalize tBytes (tmS (.lit s t g)) = Z at *
      generalize (Q ++ ⟨#[64]⟩ : ByteArray) = Y1 at *
      clear hE hr hne hW1 hx1 ht hQ e1 hgr
      go_enter Tryz.func17, Tryz.ntmps17
      go_wp2_with fail
      rw [← HW1.out]
      refine (HSI.out _).mono ?_
      rintro e w2 ⟨ra, rc, rfl, hrow, hb2⟩
      have HB2 := Lib.hid (HB1.out.trans (hb2.mono HB1.out.size))
      have HX2 := Lib.hid (blk_below HX1.out hb2)
      have HQ2 := Lib.hid (HQ.out _ _ _ hrow)
      clear hrow hb2
      go_wp2_with fail
      refine HQ2.out.mono ?_
      rintro e w3 ⟨rfl, hb3⟩
      have HB3 := Lib.hid (HB2.out.trans (hb3.mono HB2.out.size))
      have HX3 := Lib.hid (blk_below HX2.out hb3)
      obtain ⟨d0, d1, d2, d3, -⟩ := blk4 HX3.out
      clear hb3 HX2 HB2 HQ2
      go_wp2_with fail
      go_ret
      exact ⟨rfl, HB3.out⟩
  | odd n => exact hX.elim
  | none => exact hX.elim
/-- a good literal's text is short -/
theorem good_len {G : Tm → Bool} (hG : GoodFn G) {X : Tm} (hz : Small X) (h : G X = true) : (sg (text0 X)).length ≤ 100000 := by
  obtain ⟨l1, r1, h1⟩ := read_some (text0 X).data.toList
  obtain ⟨l2, r2, h2⟩ := read_some (text1 X).data.toList
  have hs := (good_signs hG hz h).2
  have h0 := h
  rw [(hG X hz).2.2.2 l1 r1 l2 r2 h1 h2] at h
  cases X with
  | blank s =>
    have h : labV s.data.toList = true := h
    unfold labV at h
    simp only [Bool.and_eq_true, decide_eq_true_eq] at h
    have h3 : (sg s).length ≤ s.size := read_len hs.1
    have : s.data.toList.length = s.size := rfl
    show (sg s).length ≤ _
    omega
  | iri s =>
    have h : iriV s l1 r1 = true := h
    unfold iriV at h
    simp only [Bool.and_eq_true, decide_eq_true_eq] at h
    have h3 : (sg s).length ≤ s.size := read_len hs.1
    show (sg s).length ≤ _
    omega
  | lit s t g =>
    have h : litG s r1 t l2 r2 g = true := h
    unfold litG at h
    simp only [Bool.and_eq_true, decide_eq_true_eq] at h
    have h3 : (sg s).length ≤ s.size := read_len hs.1
    show (sg s).length ≤ _
    omega
  | odd n => cases h
  | none => cases h
end Go.Proofs.YtbchkhjkajagfaaGreatDoor
namespace Go.Proofs.YtbchkhjkajagfaaGreatDoor
open Go Go.RowKit
set_option linter.unusedVariables false
set_option linter.unusedSimpArgs false
set_option maxRecDepth 100000
theorem kept12 {w1 w2 : World} {p0 p1 p2 p3 p4 p5 p6 p7 p8 p9 p10 p11 : Addr} {v0 v1 v2 v3 v4 v5 v6 v7 v8 v9 v10 v11 : Value} (h : w1.cell? p0 = some v0 ∧ w1.cell? p1 = some v1 ∧ w1.cell? p2 = some v2 ∧ w1.cell? p3 = some v3 ∧ w1.cell? p4 = some v4 ∧ w1.cell? p5 = some v5 ∧ w1.cell? p6 = some v6 ∧ w1.cell? p7 = some v7 ∧ w1.cell? p8 = some v8 ∧ w1.cell? p9 = some v9 ∧ w1.cell? p10 = some v10 ∧ w1.cell? p11 = some v11) (hb : Below w1.heap.size w1 w2) :
    w2.cell? p0 = some v0 ∧ w2.cell? p1 = some v1 ∧ w2.cell? p2 = some v2 ∧ w2.cell? p3 = some v3 ∧ w2.cell? p4 = some v4 ∧ w2.cell? p5 = some v5 ∧ w2.cell? p6 = some v6 ∧ w2.cell? p7 = some v7 ∧ w2.cell? p8 = some v8 ∧ w2.cell? p9 = some v9 ∧ w2.cell? p10 = some v10 ∧ w2.cell? p11 = some v11 := by
  obtain ⟨h0, h1, h2, h3, h4, h5, h6, h7, h8, h9, h10, h11⟩ := h
  exact ⟨cell_below h0 hb, cell_below h1 hb, cell_below h2 hb, cell_below h3 hb, cell_below h4 hb, cell_below h5 hb, cell_below h6 hb, cell_below h7 hb, cell_below h8 hb, cell_below h9 hb, cell_below h10 hb, cell_below h11 hb⟩
theorem tx_line (P : List Int) (t : Tri) : ((((((tBytes P ++ tBytes (tmS t.s)) ++ ⟨#[32]⟩) ++ tBytes (tmS t.p)) ++ ⟨#[32]⟩) ++ tBytes (tmS t.o)) ++ ⟨#[32, 46, 10]⟩) = tBytes (P ++ lineS t) := by
  refine ba_eq ?_
  rw [join_data, join_data, join_data, join_data, join_data, join_data, tB_data, tB_data, tB_data, tB_data, tB_data]
  unfold lineS triS
  rw [textB_append, textB_append, textB_append, enc_lit (b := 32) (by decide), textB_append, enc_lit (b := 32) (by decide), textB_append, enc_lit (b := 32) (by decide), enc_lit (b := 46) (by decide), enc_lit (n := 10) (b := 10) (by decide)]
  simp
  rfl
theorem linesS_snoc {ts : List Tri} {k : Nat} (hk : k < ts.length) : linesS (ts.take (k + 1)) = linesS (ts.take k) ++ lineS (ts[k]'hk) := by
  rw [List.take_succ_eq_append_getElem hk]
  unfold linesS
  rw [List.flatMap_append, List.flatMap_singleton]
set_option maxHeartbeats 6400000 in
theorem rprint_any {G : Tm → Bool} (hG : GoodFn G) {base : Nat} {V : Value} {ts : List Tri} (w : World) (hr : RTriRow w base V ts) (ht : ∀ t ∈ ts, GoodTri G t ∧ SmallTri t) (hn : ts.length ≤ 100000) :
    Calls Tryz.prog 9 #[V] w fun e w' => e = .returned (.string (tBytes (linesS ts))) ∧ Below w.heap.size w w' := by
  obtain ⟨a, cap, rfl⟩ := hr.form
  have HR := Lib.hid hr
  have HT := Lib.hid (fun k (hk : k < ts.length) => ht _ (List.getElem_mem hk))
  have HGF := Lib.hid hG
  have HLL := Lib.hid (fun k => lines_len (ts.take k) (fun t h => ht t (List.mem_of_mem_take h)))
  have HSN := Lib.hid (fun k (hk : k < ts.length) => linesS_snoc hk)
  have hn0 : ts.length ≤ 9223372036854775807 := by omega
  clear hr ht hG
  go_enter Tryz.func9, Tryz.ntmps9
  go_wp2_with fail
  go_loopw [3, 7] (fun v3 i wr => ∃ k : Nat, k ≤ ts.length ∧ i = .int .i64 k ∧ v3 = .string (tBytes (linesS (ts.take k))) ∧ Hid (Below w.heap.size w wr)) (fun _ i _ => ts.length - (intOf i).toNat)
  case atStart => exact ⟨0, by omega, rfl, rfl, Lib.hid (Below.refl _ _)⟩
  case round =>
    obtain ⟨k, hk, rfl, rfl, HB⟩ := hrel
    obtain ⟨wo, hwo⟩ : ∃ wo : World, wo = wr := ⟨_, rfl⟩
    subst hwo
    by_cases hlt : k < ts.length
    · obtain ⟨gb, gc, hv, hgb, r0, r1, r2, r3, r4, r5, r6, r7, r8, r9, r10, r11⟩ := rtri_at (HR.out.below HB.out) k hlt
      obtain rfl : a = some ⟨gb, 0, none⟩ := by injection hv
      obtain ⟨hgt, hst⟩ := HT.out k hlt
      have HT1 := Lib.hid (fun w => rtext_good hgt.1.1 hst.1 (good_len HGF.out hst.1 hgt.1.2.1) w)
      have HT2 := Lib.hid (fun w => rtext_good hgt.2.1.1 hst.2.1 (good_len HGF.out hst.2.1 hgt.2.1.2.1) w)
      have HT3 := Lib.hid (fun w => rtext_good hgt.2.2.1 hst.2.2 (good_len HGF.out hst.2.2 hgt.2.2.2) w)
      have l1 := tmS_len hgt.1.1 hst.1
      have l2 := tmS_len hgt.2.1.1 hst.2.1
      have l3 := tmS_len hgt.2.2.1 hst.2.2
      have l0 := HLL.out k
      have l4 : (ts.take k).length ≤ ts.length := by rw [List.length_take]; omega
      have hE := tx_line (linesS (ts.take k)) (ts[k]'hlt)
      rw [← HSN.out k hlt] at hE
      obtain ⟨t, htt⟩ : ∃ t, t = ts[k]'hlt := ⟨_, rfl⟩
      rw [← htt] at r0 r1 r2 r3 r4 r5 r6 r7 r8 r9 r10 r11 HT1 HT2 HT3 l1 l2 l3 hE
      have b0 := tB_size (linesS (ts.take k))
      have b1 := tB_size (tmS t.s)
      have b2 := tB_size (tmS t.p)
      have b3 := tB_size (tmS t.o)
      unfold refT at HT1 HT2 HT3
      obtain ⟨Z, hZ⟩ : ∃ Z, Z = tBytes (linesS (ts.take (k + 1))) := ⟨_, rfl⟩
      rw [← hZ] at hE
      have HZ := Lib.hid hZ
      clear hZ
      generalize tBytes (linesS (ts.take k)) = P at *
      generalize tBytes (tmS t.s) = A at *
      generalize tBytes (tmS t.p) = B at *
      generalize tBytes (tmS t.o) = C at *
      obtain ⟨k1, hk1⟩ : ∃ x, x = kindV t.s := ⟨_, rfl⟩
      obtain ⟨x1, hx1⟩ : ∃ x, x = text0 t.s := ⟨_, rfl⟩
      obtain ⟨y1, hy1⟩ : ∃ x, x = text1 t.s := ⟨_, rfl⟩
      obtain ⟨z1, hz1⟩ : ∃ x, x = text2 t.s := ⟨_, rfl⟩
      obtain ⟨k2, hk2⟩ : ∃ x, x = kindV t.p := ⟨_, rfl⟩
      obtain ⟨x2, hx2⟩ : ∃ x, x = text0 t.p := ⟨_, rfl⟩
      obtain ⟨y2, hy2⟩ : ∃ x, x = text1 t.p := ⟨_, rfl⟩
      obtain ⟨z2, hz2⟩ : ∃ x, x = text2 t.p := ⟨_, rfl⟩
      obtain ⟨k3, hk3⟩ : ∃ x, x = kindV t.o := ⟨_, rfl⟩
      obtain ⟨x3, hx3⟩ : ∃ x, x = text0 t.o := ⟨_, rfl⟩
      obtain ⟨y3, hy3⟩ : ∃ x, x = text1 t.o := ⟨_, rfl⟩
      obtain ⟨z3, hz3⟩ : ∃ x, x = text2 t.o := ⟨_, rfl⟩
      rw [← hk1, ← hx1, ← hy1, ← hz1] at HT1
      rw [← hk2, ← hx2, ← hy2, ← hz2] at HT2
      rw [← hk3, ← hx3, ← hy3, ← hz3] at HT3
      rw [← hk1] at r0
      rw [← hx1] at r1
      rw [← hy1] at r2
      rw [← hz1] at r3
      rw [← hk2] at r4
      rw [← hx2] at r5
      rw [← hy2] at r6
      rw [← hz2] at r7
      rw [← hk3] at r8
      rw [← hx3] at r9
      rw [← hy3] at r10
      rw [← hz3] at r11
      clear hk1 hx1 hy1 hz1 hk2 hx2 hy2 hz2 hk3 hx3 hy3 hz3
      have i1 : (0 : Int) ≤ (k : Int) := by omega
      have i2 : (k : Int) < (ts.length : Int) := by omega
      have s1 : (P ++ A : ByteArray).size = P.size + A.size := by rw [ByteArray.size_append]
      have s2 : ((P ++ A) ++ ⟨#[32]⟩ : ByteArray).size = P.size + A.size + 1 := by rw [ByteArray.size_append, s1]; rfl
      have s3 : (((P ++ A) ++ ⟨#[32]⟩) ++ B : ByteArray).size = P.size + A.size + 1 + B.size := by rw [ByteArray.size_append, s2]
      have s4 : ((((P ++ A) ++ ⟨#[32]⟩) ++ B) ++ ⟨#[32]⟩ : ByteArray).size = P.size + A.size + 1 + B.size + 1 := by rw [ByteArray.size_append, s3]; rfl
      have s5 : (((((P ++ A) ++ ⟨#[32]⟩) ++ B) ++ ⟨#[32]⟩) ++ C : ByteArray).size = P.size + A.size + 1 + B.size + 1 + C.size := by rw [ByteArray.size_append, s4]
      have z1 : (⟨#[32]⟩ : ByteArray).size = 1 := rfl
      have z2 : (⟨#[32, 46, 10]⟩ : ByteArray).size = 3 := rfl
      have g1 : ∀ w : World, (Op.stringOp .add P A).run Tryz.prog w = .ok (.string (P ++ A)) w := add_str _ _ (by omega)
      have g2 : ∀ w : World, (Op.stringOp .add (P ++ A) ⟨#[32]⟩).run Tryz.prog w = .ok (.string ((P ++ A) ++ ⟨#[32]⟩)) w := add_str _ _ (by omega)
      have g3 : ∀ w : World, (Op.stringOp .add ((P ++ A) ++ ⟨#[32]⟩) B).run Tryz.prog w = .ok (.string (((P ++ A) ++ ⟨#[32]⟩) ++ B)) w := add_str _ _ (by omega)
      have g4 : ∀ w : World, (Op.stringOp .add (((P ++ A) ++ ⟨#[32]⟩) ++ B) ⟨#[32]⟩).run Tryz.prog w = .ok (.string ((((P ++ A) ++ ⟨#[32]⟩) ++ B) ++ ⟨#[32]⟩)) w := add_str _ _ (by omega)
      have g5 : ∀ w : World, (Op.stringOp .add ((((P ++ A) ++ ⟨#[32]⟩) ++ B) ++ ⟨#[32]⟩) C).run Tryz.prog w = .ok (.string (((((P ++ A) ++ ⟨#[32]⟩) ++ B) ++ ⟨#[32]⟩) ++ C)) w := add_str _ _ (by omega)
      have g6 : ∀ w : World, (Op.stringOp .add (((((P ++ A) ++ ⟨#[32]⟩) ++ B) ++ ⟨#[32]⟩) ++ C) ⟨#[32, 46, 10]⟩).run Tryz.prog w = .ok (.string ((((((P ++ A) ++ ⟨#[32]⟩) ++ B) ++ ⟨#[32]⟩) ++ C) ++ ⟨#[32, 46, 10]⟩)) w := add_str _ _ (by omega)
      rw [hE] at g6
      generalize (((((P ++ A) ++ ⟨#[32]⟩) ++ B) ++ ⟨#[32]⟩) ++ C : ByteArray) = Q5 at *
      generalize ((((P ++ A) ++ ⟨#[32]⟩) ++ B) ++ ⟨#[32]⟩ : ByteArray) = Q4 at *
      generalize (((P ++ A) ++ ⟨#[32]⟩) ++ B : ByteArray) = Q3 at *
      generalize ((P ++ A) ++ ⟨#[32]⟩ : ByteArray) = Q2 at *
      generalize (P ++ A : ByteArray) = Q1 at *
      clear hE s1 s2 s3 s4 s5 z1 z2 l0 l1 l2 l3 l4 b0 b1 b2 b3 hgt hst htt hv hgb HLL HSN HT
      go_wp2_with fail
      refine wp_region_held_drew (S := (fun w' => w'.cell? ⟨gb, k * 12, none⟩ = some (.int .i64 k1) ∧ w'.cell? ⟨gb, k * 12 + 1, none⟩ = some (.string x1) ∧ w'.cell? ⟨gb, k * 12 + 2, none⟩ = some (.string y1) ∧ w'.cell? ⟨gb, k * 12 + 3, none⟩ = some (.string z1) ∧ w'.cell? ⟨gb, k * 12 + 4, none⟩ = some (.int .i64 k2) ∧ w'.cell? ⟨gb, k * 12 + 5, none⟩ = some (.string x2) ∧ w'.cell? ⟨gb, k * 12 + 6, none⟩ = some (.string y2) ∧ w'.cell? ⟨gb, k * 12 + 7, none⟩ = some (.string z2) ∧ w'.cell? ⟨gb, k * 12 + 8, none⟩ = some (.int .i64 k3) ∧ w'.cell? ⟨gb, k * 12 + 9, none⟩ = some (.string x3) ∧ w'.cell? ⟨gb, k * 12 + 10, none⟩ = some (.string y3) ∧ w'.cell? ⟨gb, k * 12 + 11, none⟩ = some (.string z3))) (by kernel_rfl) ?hSrpr0 (fun hHeld => ?_)
      case hSrpr0 => exact ⟨r0, r1, r2, r3, r4, r5, r6, r7, r8, r9, r10, r11⟩
      refine wpAnyH_take (i := 0) (oi := ⟨some 10, _, _, _, _, _⟩) (v := ?vrpr0) rfl (by kernel_rfl) (by kernel_rfl) (by kernel_rfl) (fun _ _ _ h => h) (Or.inl ⟨by kernel_rfl, ?yrpr0⟩) (by assumption) ?rrpr0
      case yrpr0 =>
        intro w hSw
        try dsimp only at hSw
        obtain ⟨r0, r1, r2, r3, r4, r5, r6, r7, r8, r9, r10, r11⟩ := hSw
        first | (go_simp; done) | (go_simp; with_reducible rfl)
      try simp only [Act.put, List.setIfInBounds_toArray, List.set_cons_zero, List.set_cons_succ]
      refine wpAnyH_take (i := 1) (oi := ⟨some 11, _, _, _, _, _⟩) (v := ?vrpr1) rfl (by kernel_rfl) (by kernel_rfl) (by kernel_rfl) (fun _ _ _ h => h) (Or.inl ⟨by kernel_rfl, ?yrpr1⟩) (by assumption) ?rrpr1
      case yrpr1 =>
        intro w hSw
        try dsimp only at hSw
        obtain ⟨r0, r1, r2, r3, r4, r5, r6, r7, r8, r9, r10, r11⟩ := hSw
        first | (go_simp; done) | (go_simp; with_reducible rfl)
      try simp only [Act.put, List.setIfInBounds_toArray, List.set_cons_zero, List.set_cons_succ]
      refine wpAnyH_take (i := 2) (oi := ⟨some 12, _, _, _, _, _⟩) (v := ?vrpr2) rfl (by kernel_rfl) (by kernel_rfl) (by kernel_rfl) (fun _ _ _ h => h) (Or.inl ⟨by kernel_rfl, ?yrpr2⟩) (by assumption) ?rrpr2
      case yrpr2 =>
        intro w hSw
        try dsimp only at hSw
        obtain ⟨r0, r1, r2, r3, r4, r5, r6, r7, r8, r9, r10, r11⟩ := hSw
        first | (go_simp; done) | (go_simp; with_reducible rfl)
      try simp only [Act.put, List.setIfInBounds_toArray, List.set_cons_zero, List.set_cons_succ]
      refine wpAnyH_take (i := 3) (oi := ⟨some 13, _, _, _, _, _⟩) (v := ?vrpr3) rfl (by kernel_rfl) (by kernel_rfl) (by kernel_rfl) (fun _ _ _ h => h) (Or.inl ⟨by kernel_rfl, ?yrpr3⟩) (by assumption) ?rrpr3
      case yrpr3 =>
        intro w hSw
        try dsimp only at hSw
        obtain ⟨r0, r1, r2, r3, r4, r5, r6, r7, r8, r9, r10, r11⟩ := hSw
        first | (go_simp; done) | (go_simp; with_reducible rfl)
      try simp only [Act.put, List.setIfInBounds_toArray, List.set_cons_zero, List.set_cons_succ]
      refine wpAnyH_take (i := 4) (oi := ⟨some 14, _, _, _, _, _⟩) (v := ?vrpr4) rfl (by kernel_rfl) (by kernel_rfl) (by kernel_rfl) (fun _ _ _ h => h) (Or.inl ⟨by kernel_rfl, ?yrpr4⟩) (by assumption) ?rrpr4
      case yrpr4 =>
        intro w hSw
        try dsimp only at hSw
        obtain ⟨r0, r1, r2, r3, r4, r5, r6, r7, r8, r9, r10, r11⟩ := hSw
        first | (go_simp; done) | (go_simp; with_reducible rfl)
      try simp only [Act.put, List.setIfInBounds_toArray, List.set_cons_zero, List.set_cons_succ]
      refine wpAnyH_take (i := 5) (oi := ⟨some 15, _, _, _, _, _⟩) (v := ?vrpr5) rfl (by kernel_rfl) (by kernel_rfl) (by kernel_rfl) (fun _ _ _ h => h) (Or.inl ⟨by kernel_rfl, ?yrpr5⟩) (by assumption) ?rrpr5
      case yrpr5 =>
        intro w hSw
        try dsimp only at hSw
        obtain ⟨r0, r1, r2, r3, r4, r5, r6, r7, r8, r9, r10, r11⟩ := hSw
        first | (go_simp; done) | (go_simp; with_reducible rfl)
      try simp only [Act.put, List.setIfInBounds_toArray, List.set_cons_zero, List.set_cons_succ]
      refine wpAnyH_take (i := 9) (oi := ⟨some 19, _, _, _, _, _⟩) (v := ?vrpr9) rfl (by kernel_rfl) (by kernel_rfl) (by kernel_rfl) (fun _ _ _ h => h) (Or.inl ⟨by kernel_rfl, ?yrpr9⟩) (by assumption) ?rrpr9
      case yrpr9 =>
        intro w hSw
        try dsimp only at hSw
        obtain ⟨r0, r1, r2, r3, r4, r5, r6, r7, r8, r9, r10, r11⟩ := hSw
        first | (go_simp; done) | (go_simp; with_reducible rfl)
      try simp only [Act.put, List.setIfInBounds_toArray, List.set_cons_zero, List.set_cons_succ]
      refine wpAnyH_take (i := 10) (oi := ⟨some 20, _, _, _, _, _⟩) (v := ?vrpr10) rfl (by kernel_rfl) (by kernel_rfl) (by kernel_rfl) (fun _ _ _ h => h) (Or.inl ⟨by kernel_rfl, ?yrpr10⟩) (by assumption) ?rrpr10
      case yrpr10 =>
        intro w hSw
        try dsimp only at hSw
        obtain ⟨r0, r1, r2, r3, r4, r5, r6, r7, r8, r9, r10, r11⟩ := hSw
        first | (go_simp; done) | (go_simp; with_reducible rfl)
      try simp only [Act.put, List.setIfInBounds_toArray, List.set_cons_zero, List.set_cons_succ]
      refine wpAnyH_take (i := 11) (oi := ⟨some 21, _, _, _, _, _⟩) (v := ?vrpr11) rfl (by kernel_rfl) (by kernel_rfl) (by kernel_rfl) (fun _ _ _ h => h) (Or.inl ⟨by kernel_rfl, ?yrpr11⟩) (by assumption) ?rrpr11
      case yrpr11 =>
        intro w hSw
        try dsimp only at hSw
        obtain ⟨r0, r1, r2, r3, r4, r5, r6, r7, r8, r9, r10, r11⟩ := hSw
        first | (go_simp; done) | (go_simp; with_reducible rfl)
      try simp only [Act.put, List.setIfInBounds_toArray, List.set_cons_zero, List.set_cons_succ]
      refine wpAnyH_take (i := 12) (oi := ⟨some 22, _, _, _, _, _⟩) (v := ?vrpr12) rfl (by kernel_rfl) (by kernel_rfl) (by kernel_rfl) (fun _ _ _ h => h) (Or.inl ⟨by kernel_rfl, ?yrpr12⟩) (by assumption) ?rrpr12
      case yrpr12 =>
        intro w hSw
        try dsimp only at hSw
        obtain ⟨r0, r1, r2, r3, r4, r5, r6, r7, r8, r9, r10, r11⟩ := hSw
        first | (go_simp; done) | (go_simp; with_reducible rfl)
      try simp only [Act.put, List.setIfInBounds_toArray, List.set_cons_zero, List.set_cons_succ]
      refine wpAnyH_take (i := 13) (oi := ⟨some 23, _, _, _, _, _⟩) (v := ?vrpr13) rfl (by kernel_rfl) (by kernel_rfl) (by kernel_rfl) (fun _ _ _ h => h) (Or.inl ⟨by kernel_rfl, ?yrpr13⟩) (by assumption) ?rrpr13
      case yrpr13 =>
        intro w hSw
        try dsimp only at hSw
        obtain ⟨r0, r1, r2, r3, r4, r5, r6, r7, r8, r9, r10, r11⟩ := hSw
        first | (go_simp; done) | (go_simp; with_reducible rfl)
      try simp only [Act.put, List.setIfInBounds_toArray, List.set_cons_zero, List.set_cons_succ]
      refine wpAnyH_take (i := 17) (oi := ⟨some 27, _, _, _, _, _⟩) (v := ?vrpr17) rfl (by kernel_rfl) (by kernel_rfl) (by kernel_rfl) (fun _ _ _ h => h) (Or.inl ⟨by kernel_rfl, ?yrpr17⟩) (by assumption) ?rrpr17
      case yrpr17 =>
        intro w hSw
        try dsimp only at hSw
        obtain ⟨r0, r1, r2, r3, r4, r5, r6, r7, r8, r9, r10, r11⟩ := hSw
        first | (go_simp; done) | (go_simp; with_reducible rfl)
      try simp only [Act.put, List.setIfInBounds_toArray, List.set_cons_zero, List.set_cons_succ]
      refine wpAnyH_take (i := 18) (oi := ⟨some 28, _, _, _, _, _⟩) (v := ?vrpr18) rfl (by kernel_rfl) (by kernel_rfl) (by kernel_rfl) (fun _ _ _ h => h) (Or.inl ⟨by kernel_rfl, ?yrpr18⟩) (by assumption) ?rrpr18
      case yrpr18 =>
        intro w hSw
        try dsimp only at hSw
        obtain ⟨r0, r1, r2, r3, r4, r5, r6, r7, r8, r9, r10, r11⟩ := hSw
        first | (go_simp; done) | (go_simp; with_reducible rfl)
      try simp only [Act.put, List.setIfInBounds_toArray, List.set_cons_zero, List.set_cons_succ]
      refine wpAnyH_take (i := 19) (oi := ⟨some 29, _, _, _, _, _⟩) (v := ?vrpr19) rfl (by kernel_rfl) (by kernel_rfl) (by kernel_rfl) (fun _ _ _ h => h) (Or.inl ⟨by kernel_rfl, ?yrpr19⟩) (by assumption) ?rrpr19
      case yrpr19 =>
        intro w hSw
        try dsimp only at hSw
        obtain ⟨r0, r1, r2, r3, r4, r5, r6, r7, r8, r9, r10, r11⟩ := hSw
        first | (go_simp; done) | (go_simp; with_reducible rfl)
      try simp only [Act.put, List.setIfInBounds_toArray, List.set_cons_zero, List.set_cons_succ]
      refine wpAnyH_take (i := 20) (oi := ⟨some 30, _, _, _, _, _⟩) (v := ?vrpr20) rfl (by kernel_rfl) (by kernel_rfl) (by kernel_rfl) (fun _ _ _ h => h) (Or.inl ⟨by kernel_rfl, ?yrpr20⟩) (by assumption) ?rrpr20
      case yrpr20 =>
        intro w hSw
        try dsimp only at hSw
        obtain ⟨r0, r1, r2, r3, r4, r5, r6, r7, r8, r9, r10, r11⟩ := hSw
        first | (go_simp; done) | (go_simp; with_reducible rfl)
      try simp only [Act.put, List.setIfInBounds_toArray, List.set_cons_zero, List.set_cons_succ]
      refine wpAnyH_take (i := 21) (oi := ⟨some 31, _, _, _, _, _⟩) (v := ?vrpr21) rfl (by kernel_rfl) (by kernel_rfl) (by kernel_rfl) (fun _ _ _ h => h) (Or.inl ⟨by kernel_rfl, ?yrpr21⟩) (by assumption) ?rrpr21
      case yrpr21 =>
        intro w hSw
        try dsimp only at hSw
        obtain ⟨r0, r1, r2, r3, r4, r5, r6, r7, r8, r9, r10, r11⟩ := hSw
        first | (go_simp; done) | (go_simp; with_reducible rfl)
      try simp only [Act.put, List.setIfInBounds_toArray, List.set_cons_zero, List.set_cons_succ]
      refine wpAnyH_ready (rs := [6]) (by kernel_rfl) (by simp) ?_
      refine AllReadyH.cons (i := 6) (o := ⟨some 16, _, _, _, _, _⟩) rfl (fun K hK => ?_) AllReadyH.nil
      go_simp
      refine (HT1.out _).mono ?_
      rintro e w2 ⟨rfl, hb2⟩
      have HB2 := Lib.hid (HB.out.drew.trans (hb2.mono (show w.heap.size ≤ wo.drew.heap.size from HB.out.size)))
      go_wp2_with fail
      refine hK.out _ _ ?_ (fun hHeld => ?_)
      · exact kept12 (by assumption) hb2
      clear hK K
      try simp only [Act.put, List.setIfInBounds_toArray, List.set_cons_zero, List.set_cons_succ]
      refine wpAnyH_take (i := 7) (oi := ⟨some 17, _, _, _, _, _⟩) (v := ?vrpr7) rfl (by kernel_rfl) (by kernel_rfl) (by kernel_rfl) (fun _ _ _ h => h) (Or.inl ⟨by kernel_rfl, ?yrpr7⟩) (by assumption) ?rrpr7
      case yrpr7 =>
        intro w hSw
        try dsimp only at hSw
        obtain ⟨r0, r1, r2, r3, r4, r5, r6, r7, r8, r9, r10, r11⟩ := hSw
        first | (go_simp; done) | (go_simp; with_reducible rfl)
      try simp only [Act.put, List.setIfInBounds_toArray, List.set_cons_zero, List.set_cons_succ]
      refine wpAnyH_take (i := 8) (oi := ⟨some 18, _, _, _, _, _⟩) (v := ?vrpr8) rfl (by kernel_rfl) (by kernel_rfl) (by kernel_rfl) (fun _ _ _ h => h) (Or.inl ⟨by kernel_rfl, ?yrpr8⟩) (by assumption) ?rrpr8
      case yrpr8 =>
        intro w hSw
        try dsimp only at hSw
        obtain ⟨r0, r1, r2, r3, r4, r5, r6, r7, r8, r9, r10, r11⟩ := hSw
        first | (go_simp; done) | (go_simp; with_reducible rfl)
      try simp only [Act.put, List.setIfInBounds_toArray, List.set_cons_zero, List.set_cons_succ]
      refine wpAnyH_ready (rs := [14]) (by kernel_rfl) (by simp) ?_
      refine AllReadyH.cons (i := 14) (o := ⟨some 24, _, _, _, _, _⟩) rfl (fun K hK => ?_) AllReadyH.nil
      go_simp
      refine (HT2.out _).mono ?_
      rintro e w3 ⟨rfl, hb3⟩
      have HB3 := Lib.hid (HB2.out.trans (hb3.mono HB2.out.size))
      go_wp2_with fail
      refine hK.out _ _ ?_ (fun hHeld => ?_)
      · exact kept12 (by assumption) hb3
      clear hK K
      try simp only [Act.put, List.setIfInBounds_toArray, List.set_cons_zero, List.set_cons_succ]
      refine wpAnyH_take (i := 15) (oi := ⟨some 25, _, _, _, _, _⟩) (v := ?vrpr15) rfl (by kernel_rfl) (by kernel_rfl) (by kernel_rfl) (fun _ _ _ h => h) (Or.inl ⟨by kernel_rfl, ?yrpr15⟩) (by assumption) ?rrpr15
      case yrpr15 =>
        intro w hSw
        try dsimp only at hSw
        obtain ⟨r0, r1, r2, r3, r4, r5, r6, r7, r8, r9, r10, r11⟩ := hSw
        first | (go_simp; done) | (go_simp; with_reducible rfl)
      try simp only [Act.put, List.setIfInBounds_toArray, List.set_cons_zero, List.set_cons_succ]
      refine wpAnyH_take (i := 16) (oi := ⟨some 26, _, _, _, _, _⟩) (v := ?vrpr16) rfl (by kernel_rfl) (by kernel_rfl) (by kernel_rfl) (fun _ _ _ h => h) (Or.inl ⟨by kernel_rfl, ?yrpr16⟩) (by assumption) ?rrpr16
      case yrpr16 =>
        intro w hSw
        try dsimp only at hSw
        obtain ⟨r0, r1, r2, r3, r4, r5, r6, r7, r8, r9, r10, r11⟩ := hSw
        first | (go_simp; done) | (go_simp; with_reducible rfl)
      try simp only [Act.put, List.setIfInBounds_toArray, List.set_cons_zero, List.set_cons_succ]
      refine wpAnyH_ready (rs := [22]) (by kernel_rfl) (by simp) ?_
      refine AllReadyH.cons (i := 22) (o := ⟨some 32, _, _, _, _, _⟩) rfl (fun K hK => ?_) AllReadyH.nil
      go_simp
      refine (HT3.out _).mono ?_
      rintro e w4 ⟨rfl, hb4⟩
      have HB4 := Lib.hid (HB3.out.trans (hb4.mono HB3.out.size))
      go_wp2_with fail
      refine hK.out _ _ ?_ (fun hHeld => ?_)
      · exact kept12 (by assumption) hb4
      clear hK K
      try simp only [Act.put, List.setIfInBounds_toArray, List.set_cons_zero, List.set_cons_succ]
      refine wpAnyH_take (i := 23) (oi := ⟨some 33, _, _, _, _, _⟩) (v := ?vrpr23) rfl (by kernel_rfl) (by kernel_rfl) (by kernel_rfl) (fun _ _ _ h => h) (Or.inl ⟨by kernel_rfl, ?yrpr23⟩) (by assumption) ?rrpr23
      case yrpr23 =>
        intro w hSw
        try dsimp only at hSw
        obtain ⟨r0, r1, r2, r3, r4, r5, r6, r7, r8, r9, r10, r11⟩ := hSw
        first | (go_simp; done) | (go_simp; with_reducible rfl)
      try simp only [Act.put, List.setIfInBounds_toArray, List.set_cons_zero, List.set_cons_succ]
      refine wpAnyH_take (i := 24) (oi := ⟨some 34, _, _, _, _, _⟩) (v := ?vrpr24) rfl (by kernel_rfl) (by kernel_rfl) (by kernel_rfl) (fun _ _ _ h => h) (Or.inl ⟨by kernel_rfl, ?yrpr24⟩) (by assumption) ?rrpr24
      case yrpr24 =>
        intro w hSw
        try dsimp only at hSw
        obtain ⟨r0, r1, r2, r3, r4, r5, r6, r7, r8, r9, r10, r11⟩ := hSw
        first | (go_simp; done) | (go_simp; with_reducible rfl)
      try simp only [Act.put, List.setIfInBounds_toArray, List.set_cons_zero, List.set_cons_succ]
      refine wpAnyH_take (i := 25) (oi := ⟨some 3, _, _, _, _, _⟩) (v := ?vrpr25) rfl (by kernel_rfl) (by kernel_rfl) (by kernel_rfl) (fun _ _ _ h => h) (Or.inl ⟨by kernel_rfl, ?yrpr25⟩) (by assumption) ?rrpr25
      case yrpr25 =>
        intro w hSw
        try dsimp only at hSw
        obtain ⟨r0, r1, r2, r3, r4, r5, r6, r7, r8, r9, r10, r11⟩ := hSw
        first | (go_simp; done) | (go_simp; with_reducible rfl)
      try simp only [Act.put, List.setIfInBounds_toArray, List.set_cons_zero, List.set_cons_succ]
      refine wpAnyH_done (by kernel_rfl) ?_ _
      go_wp2_with fail
      go_round
      case measure => simp only [intOf]; omega
      case rel => exact ⟨k + 1, by omega, by push_cast; rfl, by rw [HZ.out], HB4⟩
    · have t1 : decide ((k : Int) < (ts.length : Int)) = false := decide_eq_false (by omega)
      obtain ⟨Z, hZ⟩ : ∃ Z, Z = tBytes (linesS ts) := ⟨_, rfl⟩
      have hP : tBytes (linesS (ts.take k)) = Z := by rw [hZ, List.take_of_length_le (by omega)]
      rw [hP]
      have HZ := Lib.hid hZ
      clear HLL HSN HT hP hZ
      go_wp2_with fail
      go_ret
      exact ⟨by rw [HZ.out]; rfl, HB.out⟩
end Go.Proofs.YtbchkhjkajagfaaGreatDoor
namespace Go.Proofs.YtbchkhjkajagfaaGreatDoor
open Go Go.RowKit
set_option linter.unusedVariables false
set_option linter.unusedSimpArgs false
set_option maxRecDepth 100000
theorem alloc_belowP (w : World) (o : Obj) : Below w.heap.size w (w.alloc o) := (Below.refl _ _).alloc (Nat.le_refl _) o
theorem alloc_size1 (w : World) (o : Obj) : (w.drew.alloc o).heap.size = w.heap.size + 1 := by
  show (w.drew.heap.push o).size = _
  rw [Array.size_push]
  rfl
theorem box2 {w w' : World} {b c : Nat} {o p : Obj} (h : w.heap[b]? = some o ∧ w.heap[c]? = some p) (hb : Below w.heap.size w w') : w'.heap[b]? = some o ∧ w'.heap[c]? = some p := ⟨boxb h.1 hb, boxb h.2 hb⟩
theorem box2_grown {w w' : World} {q : Option Nat} {b c n : Nat} {o p : Obj} (h : w.heap[b]? = some o ∧ w.heap[c]? = some p) (hg : w.grownBy w' q) (hq : ∀ k, q = some k → k < n) (hb : n ≤ b) (hc : n ≤ c) : w'.heap[b]? = some o ∧ w'.heap[c]? = some p :=
  ⟨(hg.block _ (lt_heap h.1) (fun e => absurd (hq _ e.symm) (by omega))).trans h.1, (hg.block _ (lt_heap h.2) (fun e => absurd (hq _ e.symm) (by omega))).trans h.2⟩
theorem fresh_apart {α β : Type} {T T' : TypeId} {n n' : Nat} {c : α → List Value} {c' : β → List Value} {w w' : World} {base b2 : Nat} {V X : Value} {l : List α} {l' : List β} (hV : RowOf T n c w base V l) (hX : RowOf T' n' c' w' b2 X l') (h : w.heap.size ≤ b2) : Apart V X :=
  fun k hk he => by have h1 := (hV.own_lt k hk).2; have h2 := (hX.own_lt k he).1; omega
theorem triS_line (t : Tri) : tBytes (triS t) ++ ⟨#[10]⟩ = tBytes (linesS [t]) := by
  have e : (⟨#[10]⟩ : ByteArray) = tBytes [10] := by
    refine ba_eq ?_
    rw [tB_data]
    rw [enc_lit (n := 10) (b := 10) (by decide)]
    rfl
  rw [e, tB_app]
  unfold linesS lineS
  rw [List.flatMap_singleton]
set_option maxHeartbeats 25600000 in
theorem ntprints_walk (a1 : Option Addr) (rs : List Raw3) (cap1 : Nat) (w : World) (he : Esc w) (hm : MaxV w) (h1 : Raw3sAt w a1 rs) (hl1 : rs.length ≤ 9223372036854775807) :
    Calls Tryz.prog 4 #[.slice a1 rs.length cap1] w fun e w' => e = .returned (.bool true) ∧ Below w.heap.size w w' := by
  obtain ⟨G, hG⟩ := good_fn
  have HA := Lib.hid (fun w' (hb : Below w.heap.size w w') => nawake_any hG w' (he.below he.lt hb) (hm.below hb))
  have HEs := Lib.hid he
  have HMs := Lib.hid hm
  have HGF := Lib.hid hG
  have HF1 := Lib.hid (fun w' (hb : Below w.heap.size w w') => few_any a1 rs cap1 w' (h1.below hb) hl1)
  clear he hm hG h1
  cases hf1 : fewB rs with
  | false =>
    rw [hf1] at HF1
    go_enter Tryz.func4, Tryz.ntmps4
    go_wp2_with fail
    refine (HA.out _ (Below.refl _ _)).mono ?_
    rintro e w1 ⟨rfl, hb1⟩
    have HB1 := Lib.hid hb1
    clear hb1
    go_wp2_with fail
    refine (HF1.out _ HB1.out).mono ?_
    rintro e w0 ⟨V5, rfl, hb3, hr5⟩
    have HB3 := Lib.hid (HB1.out.trans (hb3.mono HB1.out.size))
    clear hb3 hr5 hf1
    go_wp2_with fail
    go_ret
    exact ⟨rfl, HB3.out⟩
  | true =>
  have HKEY1 := Lib.hid (fun k (hk : k < (fewT rs).length) => fewT_key rs _ (List.getElem_mem hk))
  have HSM1 := Lib.hid (fun k (hk : k < (fewT rs).length) => fewT_small hf1 _ (List.getElem_mem hk))
  have HSH1 := Lib.hid (fun k (hk : k < (fewT rs).length) => few_short hf1 _ (List.getElem_mem hk))
  have HG1 : Hid (∀ t ∈ goods G (fewT rs), GoodTri G t ∧ SmallTri t ∧ ShortTri t ∧ KeyTri t) := Lib.hid (fun t ht => ⟨good_of HGF.out (fewT_small hf1 _ (goods_mem ht).1) (goods_mem ht).2, fewT_small hf1 _ (goods_mem ht).1, few_short hf1 _ (goods_mem ht).1, fewT_key rs _ (goods_mem ht).1⟩)
  have HLEN1 := Lib.hid (fewT_len rs)
  rw [hf1] at HF1
  obtain ⟨ts, hts⟩ : ∃ ts, ts = fewT rs := ⟨_, rfl⟩
  rw [← hts] at HKEY1 HSM1 HSH1 HG1 HLEN1 HF1
  clear hts hf1
  go_enter Tryz.func4, Tryz.ntmps4
  go_wp2_with fail
  refine (HA.out _ (Below.refl _ _)).mono ?_
  rintro e w1 ⟨rfl, hb1⟩
  have HB1 := Lib.hid hb1
  clear hb1
  go_wp2_with fail
  refine (HF1.out _ HB1.out).mono ?_
  rintro e w0 ⟨V5, rfl, hb3, hr5⟩
  have HR5 := Lib.hid (hr5 (by trivial))
  have HB3 := Lib.hid (HB1.out.trans (hb3.mono HB1.out.size))
  obtain ⟨a5, c5, rfl⟩ := HR5.out.form
  have hn1 : ts.length ≤ 9223372036854775807 := by have := HLEN1.out; omega
  clear hb3 hr5 HF1 HA
  go_wp2_with fail
  go_loopw [5, 6, 25] (fun V U i wr => ∃ k : Nat, k ≤ ts.length ∧ i = .int .i64 k ∧ Hid (T3 w0 V (goods G (ts.take k)) U (goods G (ts.take k)) (.slice none 0 0) [] wr)) (fun _ _ i _ => ts.length - (intOf i).toNat)
  case atStart => exact ⟨0, by omega, rfl, Lib.hid (T3.start w0)⟩
  case round =>
    obtain ⟨k, hk, rfl, HT⟩ := hrel
    have HOWN := Lib.hid (fun q e => (HT.out.2.1.own_lt q e).2)
    have HOWNU := Lib.hid (fun q e => (HT.out.2.2.1.own_lt q e).2)
    obtain ⟨wo, hwo⟩ : ∃ wo : World, wo = wr := ⟨_, rfl⟩
    subst hwo
    by_cases hlt : k < ts.length
    · obtain ⟨gb, gc, hv, hgb, r0, r1, r2, r3, r4, r5, r6, r7, r8, r9, r10, r11⟩ := rtri_at (HR5.out.below HT.out.1) k hlt
      obtain rfl : a5 = some ⟨gb, 0, none⟩ := by injection hv
      have HKT := Lib.hid (HKEY1.out k hlt)
      have HGD := Lib.hid (fun w => rgood3_any HGF.out (ts[k]'hlt) (HSM1.out k hlt) w)
      have HTG := Lib.hid (fun wx (hx : Below w.heap.size w wx) => tgood3_any HGF.out (ts[k]'hlt) (HSM1.out k hlt) (HMs.out.below hx))
      have HRL := Lib.hid (fun w => real3_any (ts[k]'hlt) HKT.out w)
      have HGX := Lib.hid (fun h => good_of (G := G) HGF.out (HSM1.out k hlt) h)
      have HSS := Lib.hid (⟨HSM1.out k hlt, HSH1.out k hlt⟩ : _ ∧ _)
      have HYES := Lib.hid (fun h => goods_yes (G := G) (ts := ts) (k := k) hlt h)
      have HNO := Lib.hid (fun h => goods_no (G := G) (ts := ts) (k := k) hlt h)
      have HGL := Lib.hid (goods_len G (ts.take k))
      have htl : (ts.take k).length ≤ 10 := by rw [List.length_take]; have := HLEN1.out; omega
      obtain ⟨t, ht⟩ : ∃ t, t = ts[k]'hlt := ⟨_, rfl⟩
      rw [← ht] at r0 r1 r2 r3 r4 r5 r6 r7 r8 r9 r10 r11 HGD HTG HRL HYES HNO HKT HGX HSS
      have HRX : Hid (goodTri G t = true → ∀ w, Calls Tryz.prog 17 #[refT t.o] w fun e w' => e = .returned (.string (tBytes (tmS t.o))) ∧ Below w.heap.size w w') := Lib.hid (fun h w => rtext_good (HGX.out h).2.2.1 HSS.out.1.2.2 (good_len HGF.out HSS.out.1.2.2 (HGX.out h).2.2.2) w)
      have HTX : Hid (goodTri G t = true → ∀ wx, Below w.heap.size w wx → Calls Tryz.prog 16 #[tmV t.o] wx fun e w' => e = .returned (.string (tBytes (tmS t.o))) ∧ Below wx.heap.size wx w') := Lib.hid (fun h wx hx => text_good (HGX.out h).2.2.1 HSS.out.1.2.2 wx (HEs.out.below HEs.out.lt hx))
      have HTT : Hid (goodTri G t = true → ∀ wx, Below w.heap.size w wx → Calls Tryz.prog 18 #[triV t] wx fun e w' => e = .returned (.string (tBytes (triS t))) ∧ Below wx.heap.size wx w') := Lib.hid (fun h wx hx => tritext_any (HGX.out h) HSS.out.1 wx (HEs.out.below HEs.out.lt hx))
      have HRP : Hid (goodTri G t = true → ∀ wx base V, RTriRow wx base V [t] → Calls Tryz.prog 9 #[V] wx fun e w' => e = .returned (.string (tBytes (linesS [t]))) ∧ Below wx.heap.size wx w') := Lib.hid (fun h wx base V hr => rprint_any HGF.out wx hr (fun x hx => by rw [List.mem_singleton] at hx; subst hx; exact ⟨HGX.out h, HSS.out.1⟩) (by simp))
      have hz1 : goodTri G t = true → (tBytes (triS t)).size ≤ 20000 := fun h => by
        have h1 := (line_all (HGX.out h) HSS.out.2).1
        have h2 := tB_size (triS t)
        unfold lineS at h1
        rw [List.length_append] at h1
        omega
      have g1 : goodTri G t = true → ∀ w : World, (Op.stringOp .add (tBytes (triS t)) ⟨#[10]⟩).run Tryz.prog w = .ok (.string (tBytes (triS t) ++ ⟨#[10]⟩)) w := fun h => add_str _ _ (by have := hz1 h; rw [show (⟨#[10]⟩ : ByteArray).size = 1 from rfl]; omega)
      rw [triS_line] at g1
      clear hz1
      obtain ⟨gx, hgx⟩ : ∃ gx, gx = goodTri G t := ⟨_, rfl⟩
      rw [← hgx] at HGD HTG HYES HNO HRX HTX HTT HRP g1
      unfold rtriV at HGD HRL
      unfold refT at HRX
      obtain ⟨k1, hk1⟩ : ∃ x, x = kindV t.s := ⟨_, rfl⟩
      obtain ⟨x1, hx1⟩ : ∃ x, x = text0 t.s := ⟨_, rfl⟩
      obtain ⟨y1, hy1⟩ : ∃ x, x = text1 t.s := ⟨_, rfl⟩
      obtain ⟨z1, hz1⟩ : ∃ x, x = text2 t.s := ⟨_, rfl⟩
      obtain ⟨k2, hk2⟩ : ∃ x, x = kindV t.p := ⟨_, rfl⟩
      obtain ⟨x2, hx2⟩ : ∃ x, x = text0 t.p := ⟨_, rfl⟩
      obtain ⟨y2, hy2⟩ : ∃ x, x = text1 t.p := ⟨_, rfl⟩
      obtain ⟨z2, hz2⟩ : ∃ x, x = text2 t.p := ⟨_, rfl⟩
      obtain ⟨k3, hk3⟩ : ∃ x, x = kindV t.o := ⟨_, rfl⟩
      obtain ⟨x3, hx3⟩ : ∃ x, x = text0 t.o := ⟨_, rfl⟩
      obtain ⟨y3, hy3⟩ : ∃ x, x = text1 t.o := ⟨_, rfl⟩
      obtain ⟨z3, hz3⟩ : ∃ x, x = text2 t.o := ⟨_, rfl⟩
      have HRC : Hid (rtriC t = [.int .i64 k1, .string x1, .string y1, .string z1, .int .i64 k2, .string x2, .string y2, .string z2, .int .i64 k3, .string x3, .string y3, .string z3]) := Lib.hid (by rw [hk1, hx1, hy1, hz1, hk2, hx2, hy2, hz2, hk3, hx3, hy3, hz3]; rfl)
      rw [← hk1, ← hx1, ← hy1, ← hz1, ← hk2, ← hx2, ← hy2, ← hz2, ← hk3, ← hx3, ← hy3, ← hz3] at HGD HRL
      rw [← hk3, ← hx3, ← hy3, ← hz3] at HRX
      rw [← hk1] at r0
      rw [← hx1] at r1
      rw [← hy1] at r2
      rw [← hz1] at r3
      rw [← hk2] at r4
      rw [← hx2] at r5
      rw [← hy2] at r6
      rw [← hz2] at r7
      rw [← hk3] at r8
      rw [← hx3] at r9
      rw [← hy3] at r10
      rw [← hz3] at r11
      clear hk1 hx1 hy1 hz1 hk2 hx2 hy2 hz2 hk3 hx3 hy3 hz3
      have b1 : (0 : Int) ≤ (k : Int) := by omega
      have b2 : (k : Int) < (ts.length : Int) := by omega
      obtain ⟨TA, YA, e1⟩ := key_iface HKT.out.1
      obtain ⟨TB, YB, e2⟩ := key_iface HKT.out.2.1
      obtain ⟨TC, YC, e3⟩ := key_iface HKT.out.2.2
      have HTC : Hid (triC t = [.iface TA YA, .iface TB YB, .iface TC YC]) := Lib.hid (by unfold triC; rw [e1, e2, e3])
      unfold triV at HRL HTG HTT
      rw [e1, e2, e3] at HRL HTG HTT
      rw [e3] at HTX
      generalize tBytes (tmS t.o) = ZO at *
      generalize tBytes (triS t) = ZT at *
      generalize tBytes (linesS [t]) = ZL at *
      obtain ⟨W1, hW1⟩ : ∃ W1, W1 = wo.alloc (.cells #[.int .i64 k1, .string x1, .string y1, .string z1, .int .i64 k2, .string x2, .string y2, .string z2, .int .i64 k3, .string x3, .string y3, .string z3] 29) := ⟨_, rfl⟩
      have HX1 : Hid (W1.heap[wo.heap.size]? = some (.cells #[.int .i64 k1, .string x1, .string y1, .string z1, .int .i64 k2, .string x2, .string y2, .string z2, .int .i64 k3, .string x3, .string y3, .string z3] 29 (0, 0))) := Lib.hid (by rw [hW1]; exact blk_new wo _ _)
      have HT1S : Hid (wo.heap.size ≤ W1.heap.size) := Lib.hid (by rw [hW1]; exact (alloc_belowP wo _).size)
      have HT1 := Lib.hid (show _ from HT.out.below (show Below wo.heap.size wo W1 from by rw [hW1]; exact alloc_belowP wo _))
      have HW1 := Lib.hid hW1
      obtain ⟨d0, d1, d2, d3, d4, d5, d6, d7, d8, d9, d10, d11⟩ := cells12 HX1.out
      clear hv hgb hW1 ht e1 e2 e3
      cases gx with
      | false =>
        clear hgx HRX HTX HTT HRP g1
        go_wp2_with fail
        rw [← HW1.out]
        refine (HRL.out _).mono ?_
        rintro e w2 ⟨rfl, hb2⟩
        have HT2 := Lib.hid (HT1.out.below hb2)
        have HX2 := Lib.hid (boxb HX1.out hb2)
        have HB9 : Hid (wo.heap.size ≤ w2.heap.size) := Lib.hid (Nat.le_trans HT1S.out hb2.size)
        clear hb2 d0 d1 d2 d3 d4 d5 d6 d7 d8 d9 d10 d11
        obtain ⟨W3, hW3⟩ : ∃ W3, W3 = w2.alloc (.cells #[.iface TA YA, .iface TB YB, .iface TC YC] 46) := ⟨_, rfl⟩
        have HY3 : Hid (W3.heap[w2.heap.size]? = some (.cells #[.iface TA YA, .iface TB YB, .iface TC YC] 46 (0, 0))) := Lib.hid (by rw [hW3]; exact blk_new w2 _ _)
        have HX3 : Hid (W3.heap[wo.heap.size]? = some (.cells #[.int .i64 k1, .string x1, .string y1, .string z1, .int .i64 k2, .string x2, .string y2, .string z2, .int .i64 k3, .string x3, .string y3, .string z3] 29 (0, 0))) := Lib.hid (by rw [hW3]; exact boxb HX2.out (alloc_belowP _ _))
        have HT3 := Lib.hid (show _ from HT2.out.below (show Below w2.heap.size w2 W3 from by rw [hW3]; exact alloc_belowP w2 _))
        have HW3 := Lib.hid hW3
        obtain ⟨d0, d1, d2, d3, d4, d5, d6, d7, d8, d9, d10, d11⟩ := cells12 HX3.out
        obtain ⟨f0, f1, f2, -⟩ := blk3 HY3.out
        clear hW3
        go_wp2_with fail
        rw [← HW3.out]
        refine wp_region_held_drew (S := (fun w' => w'.heap[wo.heap.size]? = some (.cells #[.int .i64 k1, .string x1, .string y1, .string z1, .int .i64 k2, .string x2, .string y2, .string z2, .int .i64 k3, .string x3, .string y3, .string z3] 29 (0, 0)) ∧ w'.heap[w2.heap.size]? = some (.cells #[.iface TA YA, .iface TB YB, .iface TC YC] 46 (0, 0)))) (by kernel_rfl) ?hSnpf0 (fun hHeld => ?_)
        case hSnpf0 => exact ⟨HX3.out, HY3.out⟩
        refine wpAnyH_take (i := 0) (oi := ⟨some 31, _, _, _, _, _⟩) (v := ?vnpf0) rfl (by kernel_rfl) (by kernel_rfl) (by kernel_rfl) (fun _ _ _ h => h) (Or.inl ⟨by kernel_rfl, ?ynpf0⟩) (by assumption) ?rnpf0
        case ynpf0 =>
          intro w hSw
          try dsimp only at hSw
          obtain ⟨c0, c1, c2, c3, c4, c5, c6, c7, c8, c9, c10, c11⟩ := cells12 hSw.1; obtain ⟨f0, f1, f2, -⟩ := blk3 hSw.2
          first | (go_simp; done) | (go_simp; with_reducible rfl)
        try simp only [Act.put, List.setIfInBounds_toArray, List.set_cons_zero, List.set_cons_succ]
        refine wpAnyH_take (i := 2) (oi := ⟨some 33, _, _, _, _, _⟩) (v := ?vnpf2) rfl (by kernel_rfl) (by kernel_rfl) (by kernel_rfl) (fun _ _ _ h => h) (Or.inl ⟨by kernel_rfl, ?ynpf2⟩) (by assumption) ?rnpf2
        case ynpf2 =>
          intro w hSw
          try dsimp only at hSw
          obtain ⟨c0, c1, c2, c3, c4, c5, c6, c7, c8, c9, c10, c11⟩ := cells12 hSw.1; obtain ⟨f0, f1, f2, -⟩ := blk3 hSw.2
          first | (go_simp; done) | (go_simp; with_reducible rfl)
        try simp only [Act.put, List.setIfInBounds_toArray, List.set_cons_zero, List.set_cons_succ]
        refine wpAnyH_ready (rs := [1]) (by kernel_rfl) (by simp) ?_
        refine AllReadyH.cons (i := 1) (o := ⟨some 32, _, _, _, _, _⟩) rfl (fun K hK => ?_) AllReadyH.nil
        go_simp
        refine (HTG.out _ (HB3.out.trans (HT3.out.1.drew.mono HB3.out.size))).mono ?_
        rintro e wz1 ⟨rfl, hb1⟩
        have G1 := Lib.hid ((HT3.out.below (Below.refl _ _).drew).below hb1)
        go_wp2_with fail
        refine hK.out _ _ ?_ (fun hHeld => ?_)
        · exact box2 (by assumption) hb1
        clear hK K
        try simp only [Act.put, List.setIfInBounds_toArray, List.set_cons_zero, List.set_cons_succ]
        refine wpAnyH_ready (rs := [3]) (by kernel_rfl) (by simp) ?_
        refine AllReadyH.cons (i := 3) (o := ⟨some 34, _, _, _, _, _⟩) rfl (fun K hK => ?_) AllReadyH.nil
        go_simp
        refine (HGD.out _).mono ?_
        rintro e wz2 ⟨rfl, hb2⟩
        have G2 := Lib.hid (G1.out.below hb2)
        go_wp2_with fail
        refine hK.out _ _ ?_ (fun hHeld => ?_)
        · exact box2 (by assumption) hb2
        clear hK K
        try simp only [Act.put, List.setIfInBounds_toArray, List.set_cons_zero, List.set_cons_succ]
        refine wpAnyH_take (i := 4) (oi := ⟨some 35, _, _, _, _, _⟩) (v := ?vnpf4) rfl (by kernel_rfl) (by kernel_rfl) (by kernel_rfl) (fun _ _ _ h => h) (Or.inl ⟨by kernel_rfl, ?ynpf4⟩) (by assumption) ?rnpf4
        case ynpf4 =>
          intro w hSw
          try dsimp only at hSw
          obtain ⟨c0, c1, c2, c3, c4, c5, c6, c7, c8, c9, c10, c11⟩ := cells12 hSw.1; obtain ⟨f0, f1, f2, -⟩ := blk3 hSw.2
          first | (go_simp; done) | (go_simp; with_reducible rfl)
        try simp only [Act.put, List.setIfInBounds_toArray, List.set_cons_zero, List.set_cons_succ]
        refine wpAnyH_done (by kernel_rfl) ?_ _
        have HX4 := Lib.hid hHeld.1
        have HY4 := Lib.hid hHeld.2
        clear d0 d1 d2 d3 d4 d5 d6 d7 d8 d9 d10 d11 f0 f1 f2 hHeld
        obtain ⟨d0, d1, d2, d3, d4, d5, d6, d7, d8, d9, d10, d11⟩ := cells12 HX4.out
        obtain ⟨f0, f1, f2, -⟩ := blk3 HY4.out
        go_wp2_with fail
        refine (HTG.out _ (HB3.out.trans (G2.out.1.mono HB3.out.size))).mono ?_
        rintro e w5 ⟨rfl, hb5⟩
        have HT5 := Lib.hid (G2.out.below hb5)
        have HX5 := Lib.hid (boxb HX4.out hb5)
        have HY5 := Lib.hid (boxb HY4.out hb5)
        clear hb5 d0 d1 d2 d3 d4 d5 d6 d7 d8 d9 d10 d11 f0 f1 f2
        go_wp2_with fail
        go_round
        case measure => simp only [intOf]; omega
        case rel => exact ⟨k + 1, by omega, by push_cast; rfl, by rw [HNO.out (by trivial)]; exact HT5⟩
      | true =>
        have HRXY := Lib.hid (HRX.out rfl)
        have HTXY := Lib.hid (HTX.out rfl)
        have HTTY := Lib.hid (HTT.out rfl)
        have HRPY := Lib.hid (HRP.out rfl)
        replace g1 := g1 rfl
        clear hgx HRX HTX HTT HRP
        go_wp2_with fail
        rw [← HW1.out]
        refine (HRL.out _).mono ?_
        rintro e w2 ⟨rfl, hb2⟩
        have HT2 := Lib.hid (HT1.out.below hb2)
        have HX2 := Lib.hid (boxb HX1.out hb2)
        have HB9 : Hid (wo.heap.size ≤ w2.heap.size) := Lib.hid (Nat.le_trans HT1S.out hb2.size)
        clear hb2 d0 d1 d2 d3 d4 d5 d6 d7 d8 d9 d10 d11
        obtain ⟨W3, hW3⟩ : ∃ W3, W3 = w2.alloc (.cells #[.iface TA YA, .iface TB YB, .iface TC YC] 46) := ⟨_, rfl⟩
        have HY3 : Hid (W3.heap[w2.heap.size]? = some (.cells #[.iface TA YA, .iface TB YB, .iface TC YC] 46 (0, 0))) := Lib.hid (by rw [hW3]; exact blk_new w2 _ _)
        have HX3 : Hid (W3.heap[wo.heap.size]? = some (.cells #[.int .i64 k1, .string x1, .string y1, .string z1, .int .i64 k2, .string x2, .string y2, .string z2, .int .i64 k3, .string x3, .string y3, .string z3] 29 (0, 0))) := Lib.hid (by rw [hW3]; exact boxb HX2.out (alloc_belowP _ _))
        have HT3 := Lib.hid (show _ from HT2.out.below (show Below w2.heap.size w2 W3 from by rw [hW3]; exact alloc_belowP w2 _))
        have HW3 := Lib.hid hW3
        obtain ⟨d0, d1, d2, d3, d4, d5, d6, d7, d8, d9, d10, d11⟩ := cells12 HX3.out
        obtain ⟨f0, f1, f2, -⟩ := blk3 HY3.out
        clear hW3
        go_wp2_with fail
        rw [← HW3.out]
        refine wp_region_held_drew (S := (fun w' => w'.heap[wo.heap.size]? = some (.cells #[.int .i64 k1, .string x1, .string y1, .string z1, .int .i64 k2, .string x2, .string y2, .string z2, .int .i64 k3, .string x3, .string y3, .string z3] 29 (0, 0)) ∧ w'.heap[w2.heap.size]? = some (.cells #[.iface TA YA, .iface TB YB, .iface TC YC] 46 (0, 0)))) (by kernel_rfl) ?hSnpt0 (fun hHeld => ?_)
        case hSnpt0 => exact ⟨HX3.out, HY3.out⟩
        refine wpAnyH_take (i := 0) (oi := ⟨some 31, _, _, _, _, _⟩) (v := ?vnpt0) rfl (by kernel_rfl) (by kernel_rfl) (by kernel_rfl) (fun _ _ _ h => h) (Or.inl ⟨by kernel_rfl, ?ynpt0⟩) (by assumption) ?rnpt0
        case ynpt0 =>
          intro w hSw
          try dsimp only at hSw
          obtain ⟨c0, c1, c2, c3, c4, c5, c6, c7, c8, c9, c10, c11⟩ := cells12 hSw.1; obtain ⟨f0, f1, f2, -⟩ := blk3 hSw.2
          first | (go_simp; done) | (go_simp; with_reducible rfl)
        try simp only [Act.put, List.setIfInBounds_toArray, List.set_cons_zero, List.set_cons_succ]
        refine wpAnyH_take (i := 2) (oi := ⟨some 33, _, _, _, _, _⟩) (v := ?vnpt2) rfl (by kernel_rfl) (by kernel_rfl) (by kernel_rfl) (fun _ _ _ h => h) (Or.inl ⟨by kernel_rfl, ?ynpt2⟩) (by assumption) ?rnpt2
        case ynpt2 =>
          intro w hSw
          try dsimp only at hSw
          obtain ⟨c0, c1, c2, c3, c4, c5, c6, c7, c8, c9, c10, c11⟩ := cells12 hSw.1; obtain ⟨f0, f1, f2, -⟩ := blk3 hSw.2
          first | (go_simp; done) | (go_simp; with_reducible rfl)
        try simp only [Act.put, List.setIfInBounds_toArray, List.set_cons_zero, List.set_cons_succ]
        refine wpAnyH_ready (rs := [1]) (by kernel_rfl) (by simp) ?_
        refine AllReadyH.cons (i := 1) (o := ⟨some 32, _, _, _, _, _⟩) rfl (fun K hK => ?_) AllReadyH.nil
        go_simp
        refine (HTG.out _ (HB3.out.trans (HT3.out.1.drew.mono HB3.out.size))).mono ?_
        rintro e wz1 ⟨rfl, hb1⟩
        have G1 := Lib.hid ((HT3.out.below (Below.refl _ _).drew).below hb1)
        go_wp2_with fail
        refine hK.out _ _ ?_ (fun hHeld => ?_)
        · exact box2 (by assumption) hb1
        clear hK K
        try simp only [Act.put, List.setIfInBounds_toArray, List.set_cons_zero, List.set_cons_succ]
        refine wpAnyH_ready (rs := [3]) (by kernel_rfl) (by simp) ?_
        refine AllReadyH.cons (i := 3) (o := ⟨some 34, _, _, _, _, _⟩) rfl (fun K hK => ?_) AllReadyH.nil
        go_simp
        refine (HGD.out _).mono ?_
        rintro e wz2 ⟨rfl, hb2⟩
        have G2 := Lib.hid (G1.out.below hb2)
        go_wp2_with fail
        refine hK.out _ _ ?_ (fun hHeld => ?_)
        · exact box2 (by assumption) hb2
        clear hK K
        try simp only [Act.put, List.setIfInBounds_toArray, List.set_cons_zero, List.set_cons_succ]
        refine wpAnyH_take (i := 4) (oi := ⟨some 35, _, _, _, _, _⟩) (v := ?vnpt4) rfl (by kernel_rfl) (by kernel_rfl) (by kernel_rfl) (fun _ _ _ h => h) (Or.inl ⟨by kernel_rfl, ?ynpt4⟩) (by assumption) ?rnpt4
        case ynpt4 =>
          intro w hSw
          try dsimp only at hSw
          obtain ⟨c0, c1, c2, c3, c4, c5, c6, c7, c8, c9, c10, c11⟩ := cells12 hSw.1; obtain ⟨f0, f1, f2, -⟩ := blk3 hSw.2
          first | (go_simp; done) | (go_simp; with_reducible rfl)
        try simp only [Act.put, List.setIfInBounds_toArray, List.set_cons_zero, List.set_cons_succ]
        refine wpAnyH_done (by kernel_rfl) ?_ _
        have HX4 := Lib.hid hHeld.1
        have HY4 := Lib.hid hHeld.2
        clear d0 d1 d2 d3 d4 d5 d6 d7 d8 d9 d10 d11 f0 f1 f2 hHeld
        obtain ⟨d0, d1, d2, d3, d4, d5, d6, d7, d8, d9, d10, d11⟩ := cells12 HX4.out
        obtain ⟨f0, f1, f2, -⟩ := blk3 HY4.out
        go_wp2_with fail
        refine (HTG.out _ (HB3.out.trans (G2.out.1.mono HB3.out.size))).mono ?_
        rintro e w5 ⟨rfl, hb5⟩
        have HT5 := Lib.hid (G2.out.below hb5)
        have HX5 := Lib.hid (boxb HX4.out hb5)
        have HY5 := Lib.hid (boxb HY4.out hb5)
        clear hb5 d0 d1 d2 d3 d4 d5 d6 d7 d8 d9 d10 d11 f0 f1 f2
        obtain ⟨va, vc, hva⟩ := HT5.out.2.1.form
        obtain ⟨nv, hnv⟩ : ∃ n, n = List.length (goods G (ts.take k)) := ⟨_, rfl⟩
        rw [← hnv] at hva
        subst hva
        obtain ⟨ua, uc, hua⟩ := HT5.out.2.2.1.form
        rw [← hnv] at hua
        subst hua
        clear hnv
        go_wp2_with fail
        refine' (have key : ∀ (VV UU : Value) (q1 q2 : Nat) (W : World), Hid (T3 w0 VV (goods G (ts.take k) ++ [t]) UU (goods G (ts.take k) ++ [t]) (.slice none 0 0) [] W ∧ (W.heap[wo.heap.size]? = some (.cells #[.int .i64 k1, .string x1, .string y1, .string z1, .int .i64 k2, .string x2, .string y2, .string z2, .int .i64 k3, .string x3, .string y3, .string z3] 29 (0, 0)) ∧ W.heap[w2.heap.size]? = some (.cells #[.iface TA YA, .iface TB YB, .iface TC YC] 46 (0, 0)))) → (_ : Value → Value → Nat → Nat → World → Prop) VV UU q1 q2 W := ?key; ?main)
        case main =>
          refine wp_region_held_drew (S := (fun w' => w'.heap[wo.heap.size]? = some (.cells #[.int .i64 k1, .string x1, .string y1, .string z1, .int .i64 k2, .string x2, .string y2, .string z2, .int .i64 k3, .string x3, .string y3, .string z3] 29 (0, 0)) ∧ w'.heap[w2.heap.size]? = some (.cells #[.iface TA YA, .iface TB YB, .iface TC YC] 46 (0, 0)))) (by kernel_rfl) ?hSnpa0 (fun hHeld => ?_)
          case hSnpa0 => exact ⟨HX5.out, HY5.out⟩
          refine wpAnyH_take (i := 0) (oi := ⟨some 39, _, _, _, _, _⟩) (v := ?vnpa0) rfl (by kernel_rfl) (by kernel_rfl) (by kernel_rfl) (fun _ _ _ h => h) (Or.inl ⟨by kernel_rfl, ?ynpa0⟩) (by assumption) ?rnpa0
          case ynpa0 =>
            intro w hSw
            try dsimp only at hSw
            obtain ⟨c0, c1, c2, c3, c4, c5, c6, c7, c8, c9, c10, c11⟩ := cells12 hSw.1; obtain ⟨f0, f1, f2, -⟩ := blk3 hSw.2
            first | (go_simp; done) | (go_simp; with_reducible rfl)
          try simp only [Act.put, List.setIfInBounds_toArray, List.set_cons_zero, List.set_cons_succ]
          refine wpAnyH_take (i := 1) (oi := ⟨some 40, _, _, _, _, _⟩) (v := ?vnpa1) rfl (by kernel_rfl) (by kernel_rfl) (by kernel_rfl) (fun _ _ _ h => h) (Or.inl ⟨by kernel_rfl, ?ynpa1⟩) (by assumption) ?rnpa1
          case ynpa1 =>
            intro w hSw
            try dsimp only at hSw
            obtain ⟨c0, c1, c2, c3, c4, c5, c6, c7, c8, c9, c10, c11⟩ := cells12 hSw.1; obtain ⟨f0, f1, f2, -⟩ := blk3 hSw.2
            first | (go_simp; done) | (go_simp; with_reducible rfl)
          try simp only [Act.put, List.setIfInBounds_toArray, List.set_cons_zero, List.set_cons_succ]
          refine wpAnyH_take (i := 4) (oi := ⟨some 43, _, _, _, _, _⟩) (v := ?vnpa4) rfl (by kernel_rfl) (by kernel_rfl) (by kernel_rfl) (fun _ _ _ h => h) (Or.inl ⟨by kernel_rfl, ?ynpa4⟩) (by assumption) ?rnpa4
          case ynpa4 =>
            intro w hSw
            try dsimp only at hSw
            obtain ⟨c0, c1, c2, c3, c4, c5, c6, c7, c8, c9, c10, c11⟩ := cells12 hSw.1; obtain ⟨f0, f1, f2, -⟩ := blk3 hSw.2
            first | (go_simp; done) | (go_simp; with_reducible rfl)
          try simp only [Act.put, List.setIfInBounds_toArray, List.set_cons_zero, List.set_cons_succ]
          refine wpAnyH_take (i := 5) (oi := ⟨some 44, _, _, _, _, _⟩) (v := ?vnpa5) rfl (by kernel_rfl) (by kernel_rfl) (by kernel_rfl) (fun _ _ _ h => h) (Or.inl ⟨by kernel_rfl, ?ynpa5⟩) (by assumption) ?rnpa5
          case ynpa5 =>
            intro w hSw
            try dsimp only at hSw
            obtain ⟨c0, c1, c2, c3, c4, c5, c6, c7, c8, c9, c10, c11⟩ := cells12 hSw.1; obtain ⟨f0, f1, f2, -⟩ := blk3 hSw.2
            first | (go_simp; done) | (go_simp; with_reducible rfl)
          try simp only [Act.put, List.setIfInBounds_toArray, List.set_cons_zero, List.set_cons_succ]
          refine wpAnyH_ready (rs := [2, 6]) (by kernel_rfl) (by simp) ?_
          refine AllReadyH.cons (i := 2) (o := ⟨some 41, _, _, _, _, _⟩) rfl (fun K hK => ?bnpa2) (AllReadyH.cons (i := 6) (o := ⟨some 45, _, _, _, _, _⟩) rfl (fun K hK => ?bnpa6) (AllReadyH.nil))
          case' bnpa2 =>
            go_simp
            have HTa := Lib.hid ((HT5.out.below (Below.refl _ _).drew).below (alloc_belowP w5.drew (.cells #[.int .i64 k1, .string x1, .string y1, .string z1, .int .i64 k2, .string x2, .string y2, .string z2, .int .i64 k3, .string x3, .string y3, .string z3] 29)))
            have x5 : RTriRow (w5.drew.alloc (.cells #[.int .i64 k1, .string x1, .string y1, .string z1, .int .i64 k2, .string x2, .string y2, .string z2, .int .i64 k3, .string x3, .string y3, .string z3] 29)) w5.drew.heap.size (.slice (some ⟨w5.drew.heap.size, 0, none⟩) 1 1) [t] := by have := RowOf.new (T := 29) rtriC_len w5.drew [t] (by simp); rw [show [t].flatMap rtriC = [.int .i64 k1, .string x1, .string y1, .string z1, .int .i64 k2, .string x2, .string y2, .string z2, .int .i64 k3, .string x3, .string y3, .string z3] from by rw [List.flatMap_singleton, HRC.out]] at this; exact this
            refine hK.out _ _ ?_ (fun hHeld => ?_)
            · exact box2 (by assumption) (alloc_belowP _ _)
            clear hK K
            try simp only [Act.put, List.setIfInBounds_toArray, List.set_cons_zero, List.set_cons_succ]
            refine wpAnyH_ready (rs := [3, 6]) (by kernel_rfl) (by simp) ?_
            refine AllReadyH.cons (i := 3) (o := ⟨some 42, _, _, _, _, _⟩) rfl (fun K hK => ?bnpap23) (AllReadyH.cons (i := 6) (o := ⟨some 45, _, _, _, _, _⟩) rfl (fun K hK => ?bnpap26) (AllReadyH.nil))
            case' bnpap23 =>
              refine step_append_rows eltRTri _ (by rfl) (.tmp 39) (.tmp 41) (by rfl) w0.heap.size w5.drew.heap.size _ _ _ [t] (by rfl) (by rfl) HTa.out.2.1 x5 (by simp; have := HGL.out; omega) HTa.out.1.size ?_
              intro V4 w4 r4 q4 at4
              have HT4 := Lib.hid (HTa.out.growV r4 q4 at4)
              refine hK.out _ _ ?_ (fun hHeld => ?_)
              · exact box2_grown (by assumption) q4 HOWN.out (Nat.le_refl _) HB9.out
              clear hK K
              try simp only [Act.put, List.setIfInBounds_toArray, List.set_cons_zero, List.set_cons_succ]
              refine wpAnyH_ready (rs := [6]) (by kernel_rfl) (by simp) ?_
              refine AllReadyH.cons (i := 6) (o := ⟨some 45, _, _, _, _, _⟩) rfl (fun K hK => ?_) AllReadyH.nil
              go_simp
              have HTb := Lib.hid (HT4.out.below (alloc_belowP w4 (.cells #[.iface TA YA, .iface TB YB, .iface TC YC] 46)))
              have x6 : TriRow (w4.alloc (.cells #[.iface TA YA, .iface TB YB, .iface TC YC] 46)) w4.heap.size (.slice (some ⟨w4.heap.size, 0, none⟩) 1 1) [t] := by have := RowOf.new (T := 46) triC_len w4 [t] (by simp); rw [show [t].flatMap triC = [.iface TA YA, .iface TB YB, .iface TC YC] from by rw [List.flatMap_singleton, HTC.out]] at this; exact this
              refine hK.out _ _ ?_ (fun hHeld => ?_)
              · exact box2 (by assumption) (alloc_belowP _ _)
              clear hK K
              try simp only [Act.put, List.setIfInBounds_toArray, List.set_cons_zero, List.set_cons_succ]
              refine wpAnyH_ready (rs := [7]) (by kernel_rfl) (by simp) ?_
              refine AllReadyH.cons (i := 7) (o := ⟨some 46, _, _, _, _, _⟩) rfl (fun K hK => ?_) AllReadyH.nil
              refine step_append_rows eltTri _ (by rfl) (.tmp 43) (.tmp 45) (by rfl) w0.heap.size w4.heap.size _ _ _ [t] (by rfl) (by rfl) HTb.out.2.2.1 x6 (by simp; have := HGL.out; omega) HTb.out.1.size ?_
              intro V7 w7 r7 q7 at7
              have HT7 := Lib.hid (HTb.out.growU r7 q7 at7)
              refine hK.out _ _ ?_ (fun hHeld => ?_)
              · exact box2_grown (by assumption) q7 HOWNU.out (Nat.le_refl _) HB9.out
              clear hK K
              try simp only [Act.put, List.setIfInBounds_toArray, List.set_cons_zero, List.set_cons_succ]
              refine wpAnyH_take (i := 8) (oi := ⟨some 5, _, _, _, _, _⟩) (v := ?vnpap2p38) rfl (by kernel_rfl) (by kernel_rfl) (by kernel_rfl) (fun _ _ _ h => h) (Or.inl ⟨by kernel_rfl, ?ynpap2p38⟩) (by assumption) ?rnpap2p38
              case ynpap2p38 =>
                intro w hSw
                try dsimp only at hSw
                obtain ⟨c0, c1, c2, c3, c4, c5, c6, c7, c8, c9, c10, c11⟩ := cells12 hSw.1; obtain ⟨f0, f1, f2, -⟩ := blk3 hSw.2
                first | (go_simp; done) | (go_simp; with_reducible rfl)
              try simp only [Act.put, List.setIfInBounds_toArray, List.set_cons_zero, List.set_cons_succ]
              refine wpAnyH_take (i := 9) (oi := ⟨some 6, _, _, _, _, _⟩) (v := ?vnpap2p39) rfl (by kernel_rfl) (by kernel_rfl) (by kernel_rfl) (fun _ _ _ h => h) (Or.inl ⟨by kernel_rfl, ?ynpap2p39⟩) (by assumption) ?rnpap2p39
              case ynpap2p39 =>
                intro w hSw
                try dsimp only at hSw
                obtain ⟨c0, c1, c2, c3, c4, c5, c6, c7, c8, c9, c10, c11⟩ := cells12 hSw.1; obtain ⟨f0, f1, f2, -⟩ := blk3 hSw.2
                first | (go_simp; done) | (go_simp; with_reducible rfl)
              try simp only [Act.put, List.setIfInBounds_toArray, List.set_cons_zero, List.set_cons_succ]
              refine wpAnyH_done (by kernel_rfl) ?_ _
            case' bnpap26 =>
              go_simp
              have HTb := Lib.hid (HTa.out.below (alloc_belowP (w5.drew.alloc (.cells #[.int .i64 k1, .string x1, .string y1, .string z1, .int .i64 k2, .string x2, .string y2, .string z2, .int .i64 k3, .string x3, .string y3, .string z3] 29)) (.cells #[.iface TA YA, .iface TB YB, .iface TC YC] 46)))
              have x6 : TriRow ((w5.drew.alloc (.cells #[.int .i64 k1, .string x1, .string y1, .string z1, .int .i64 k2, .string x2, .string y2, .string z2, .int .i64 k3, .string x3, .string y3, .string z3] 29)).alloc (.cells #[.iface TA YA, .iface TB YB, .iface TC YC] 46)) (w5.drew.alloc (.cells #[.int .i64 k1, .string x1, .string y1, .string z1, .int .i64 k2, .string x2, .string y2, .string z2, .int .i64 k3, .string x3, .string y3, .string z3] 29)).heap.size (.slice (some ⟨(w5.drew.alloc (.cells #[.int .i64 k1, .string x1, .string y1, .string z1, .int .i64 k2, .string x2, .string y2, .string z2, .int .i64 k3, .string x3, .string y3, .string z3] 29)).heap.size, 0, none⟩) 1 1) [t] := by have := RowOf.new (T := 46) triC_len (w5.drew.alloc (.cells #[.int .i64 k1, .string x1, .string y1, .string z1, .int .i64 k2, .string x2, .string y2, .string z2, .int .i64 k3, .string x3, .string y3, .string z3] 29)) [t] (by simp); rw [show [t].flatMap triC = [.iface TA YA, .iface TB YB, .iface TC YC] from by rw [List.flatMap_singleton, HTC.out]] at this; exact this
              rw [alloc_size1] at x6
              have x5b := x5.below (alloc_belowP (w5.drew.alloc (.cells #[.int .i64 k1, .string x1, .string y1, .string z1, .int .i64 k2, .string x2, .string y2, .string z2, .int .i64 k3, .string x3, .string y3, .string z3] 29)) (.cells #[.iface TA YA, .iface TB YB, .iface TC YC] 46))
              refine hK.out _ _ ?_ (fun hHeld => ?_)
              · exact box2 (by assumption) (alloc_belowP _ _)
              clear hK K
              try simp only [Act.put, List.setIfInBounds_toArray, List.set_cons_zero, List.set_cons_succ]
              refine wpAnyH_ready (rs := [3]) (by kernel_rfl) (by simp) ?_
              refine AllReadyH.cons (i := 3) (o := ⟨some 42, _, _, _, _, _⟩) rfl (fun K hK => ?_) AllReadyH.nil
              refine step_append_rows eltRTri _ (by rfl) (.tmp 39) (.tmp 41) (by rfl) w0.heap.size w5.drew.heap.size _ _ _ [t] (by rfl) (by rfl) HTb.out.2.1 x5b (by simp; have := HGL.out; omega) HTb.out.1.size ?_
              intro V4 w4 r4 q4 at4
              have HT4 := Lib.hid (HTb.out.growV r4 q4 at4)
              have x6b := x6.kept2 q4 (fresh_apart HTa.out.2.1 x6 (Nat.le_of_eq (alloc_size1 _ _)))
              refine hK.out _ _ ?_ (fun hHeld => ?_)
              · exact box2_grown (by assumption) q4 HOWN.out (Nat.le_refl _) HB9.out
              clear hK K
              try simp only [Act.put, List.setIfInBounds_toArray, List.set_cons_zero, List.set_cons_succ]
              refine wpAnyH_ready (rs := [7]) (by kernel_rfl) (by simp) ?_
              refine AllReadyH.cons (i := 7) (o := ⟨some 46, _, _, _, _, _⟩) rfl (fun K hK => ?_) AllReadyH.nil
              refine step_append_rows eltTri _ (by rfl) (.tmp 43) (.tmp 45) (by rfl) w0.heap.size (w5.heap.size + 1) _ _ _ [t] (by rfl) (by rfl) HT4.out.2.2.1 x6b (by simp; have := HGL.out; omega) HT4.out.1.size ?_
              intro V7 w7 r7 q7 at7
              have HT7 := Lib.hid (HT4.out.growU r7 q7 at7)
              refine hK.out _ _ ?_ (fun hHeld => ?_)
              · exact box2_grown (by assumption) q7 HOWNU.out (Nat.le_refl _) HB9.out
              clear hK K
              try simp only [Act.put, List.setIfInBounds_toArray, List.set_cons_zero, List.set_cons_succ]
              refine wpAnyH_take (i := 8) (oi := ⟨some 5, _, _, _, _, _⟩) (v := ?vnpap2p68) rfl (by kernel_rfl) (by kernel_rfl) (by kernel_rfl) (fun _ _ _ h => h) (Or.inl ⟨by kernel_rfl, ?ynpap2p68⟩) (by assumption) ?rnpap2p68
              case ynpap2p68 =>
                intro w hSw
                try dsimp only at hSw
                obtain ⟨c0, c1, c2, c3, c4, c5, c6, c7, c8, c9, c10, c11⟩ := cells12 hSw.1; obtain ⟨f0, f1, f2, -⟩ := blk3 hSw.2
                first | (go_simp; done) | (go_simp; with_reducible rfl)
              try simp only [Act.put, List.setIfInBounds_toArray, List.set_cons_zero, List.set_cons_succ]
              refine wpAnyH_take (i := 9) (oi := ⟨some 6, _, _, _, _, _⟩) (v := ?vnpap2p69) rfl (by kernel_rfl) (by kernel_rfl) (by kernel_rfl) (fun _ _ _ h => h) (Or.inl ⟨by kernel_rfl, ?ynpap2p69⟩) (by assumption) ?rnpap2p69
              case ynpap2p69 =>
                intro w hSw
                try dsimp only at hSw
                obtain ⟨c0, c1, c2, c3, c4, c5, c6, c7, c8, c9, c10, c11⟩ := cells12 hSw.1; obtain ⟨f0, f1, f2, -⟩ := blk3 hSw.2
                first | (go_simp; done) | (go_simp; with_reducible rfl)
              try simp only [Act.put, List.setIfInBounds_toArray, List.set_cons_zero, List.set_cons_succ]
              refine wpAnyH_done (by kernel_rfl) ?_ _
          case' bnpa6 =>
            go_simp
            have HTa := Lib.hid ((HT5.out.below (Below.refl _ _).drew).below (alloc_belowP w5.drew (.cells #[.iface TA YA, .iface TB YB, .iface TC YC] 46)))
            have x6 : TriRow (w5.drew.alloc (.cells #[.iface TA YA, .iface TB YB, .iface TC YC] 46)) w5.drew.heap.size (.slice (some ⟨w5.drew.heap.size, 0, none⟩) 1 1) [t] := by have := RowOf.new (T := 46) triC_len w5.drew [t] (by simp); rw [show [t].flatMap triC = [.iface TA YA, .iface TB YB, .iface TC YC] from by rw [List.flatMap_singleton, HTC.out]] at this; exact this
            refine hK.out _ _ ?_ (fun hHeld => ?_)
            · exact box2 (by assumption) (alloc_belowP _ _)
            clear hK K
            try simp only [Act.put, List.setIfInBounds_toArray, List.set_cons_zero, List.set_cons_succ]
            refine wpAnyH_ready (rs := [2]) (by kernel_rfl) (by simp) ?_
            refine AllReadyH.cons (i := 2) (o := ⟨some 41, _, _, _, _, _⟩) rfl (fun K hK => ?_) AllReadyH.nil
            go_simp
            have HTb := Lib.hid (HTa.out.below (alloc_belowP (w5.drew.alloc (.cells #[.iface TA YA, .iface TB YB, .iface TC YC] 46)) (.cells #[.int .i64 k1, .string x1, .string y1, .string z1, .int .i64 k2, .string x2, .string y2, .string z2, .int .i64 k3, .string x3, .string y3, .string z3] 29)))
            have x5 : RTriRow ((w5.drew.alloc (.cells #[.iface TA YA, .iface TB YB, .iface TC YC] 46)).alloc (.cells #[.int .i64 k1, .string x1, .string y1, .string z1, .int .i64 k2, .string x2, .string y2, .string z2, .int .i64 k3, .string x3, .string y3, .string z3] 29)) (w5.drew.alloc (.cells #[.iface TA YA, .iface TB YB, .iface TC YC] 46)).heap.size (.slice (some ⟨(w5.drew.alloc (.cells #[.iface TA YA, .iface TB YB, .iface TC YC] 46)).heap.size, 0, none⟩) 1 1) [t] := by have := RowOf.new (T := 29) rtriC_len (w5.drew.alloc (.cells #[.iface TA YA, .iface TB YB, .iface TC YC] 46)) [t] (by simp); rw [show [t].flatMap rtriC = [.int .i64 k1, .string x1, .string y1, .string z1, .int .i64 k2, .string x2, .string y2, .string z2, .int .i64 k3, .string x3, .string y3, .string z3] from by rw [List.flatMap_singleton, HRC.out]] at this; exact this
            rw [alloc_size1] at x5
            have x6a := x6.below (alloc_belowP (w5.drew.alloc (.cells #[.iface TA YA, .iface TB YB, .iface TC YC] 46)) (.cells #[.int .i64 k1, .string x1, .string y1, .string z1, .int .i64 k2, .string x2, .string y2, .string z2, .int .i64 k3, .string x3, .string y3, .string z3] 29))
            refine hK.out _ _ ?_ (fun hHeld => ?_)
            · exact box2 (by assumption) (alloc_belowP _ _)
            clear hK K
            try simp only [Act.put, List.setIfInBounds_toArray, List.set_cons_zero, List.set_cons_succ]
            refine wpAnyH_ready (rs := [3]) (by kernel_rfl) (by simp) ?_
            refine AllReadyH.cons (i := 3) (o := ⟨some 42, _, _, _, _, _⟩) rfl (fun K hK => ?_) AllReadyH.nil
            refine step_append_rows eltRTri _ (by rfl) (.tmp 39) (.tmp 41) (by rfl) w0.heap.size (w5.heap.size + 1) _ _ _ [t] (by rfl) (by rfl) HTb.out.2.1 x5 (by simp; have := HGL.out; omega) HTb.out.1.size ?_
            intro V4 w4 r4 q4 at4
            have HT4 := Lib.hid (HTb.out.growV r4 q4 at4)
            have x6b := x6a.kept2 q4 (fresh_apart HT5.out.2.1 x6 (Nat.le_refl _))
            refine hK.out _ _ ?_ (fun hHeld => ?_)
            · exact box2_grown (by assumption) q4 HOWN.out (Nat.le_refl _) HB9.out
            clear hK K
            try simp only [Act.put, List.setIfInBounds_toArray, List.set_cons_zero, List.set_cons_succ]
            refine wpAnyH_ready (rs := [7]) (by kernel_rfl) (by simp) ?_
            refine AllReadyH.cons (i := 7) (o := ⟨some 46, _, _, _, _, _⟩) rfl (fun K hK => ?_) AllReadyH.nil
            refine step_append_rows eltTri _ (by rfl) (.tmp 43) (.tmp 45) (by rfl) w0.heap.size w5.drew.heap.size _ _ _ [t] (by rfl) (by rfl) HT4.out.2.2.1 x6b (by simp; have := HGL.out; omega) HT4.out.1.size ?_
            intro V7 w7 r7 q7 at7
            have HT7 := Lib.hid (HT4.out.growU r7 q7 at7)
            refine hK.out _ _ ?_ (fun hHeld => ?_)
            · exact box2_grown (by assumption) q7 HOWNU.out (Nat.le_refl _) HB9.out
            clear hK K
            try simp only [Act.put, List.setIfInBounds_toArray, List.set_cons_zero, List.set_cons_succ]
            refine wpAnyH_take (i := 8) (oi := ⟨some 5, _, _, _, _, _⟩) (v := ?vnpap68) rfl (by kernel_rfl) (by kernel_rfl) (by kernel_rfl) (fun _ _ _ h => h) (Or.inl ⟨by kernel_rfl, ?ynpap68⟩) (by assumption) ?rnpap68
            case ynpap68 =>
              intro w hSw
              try dsimp only at hSw
              obtain ⟨c0, c1, c2, c3, c4, c5, c6, c7, c8, c9, c10, c11⟩ := cells12 hSw.1; obtain ⟨f0, f1, f2, -⟩ := blk3 hSw.2
              first | (go_simp; done) | (go_simp; with_reducible rfl)
            try simp only [Act.put, List.setIfInBounds_toArray, List.set_cons_zero, List.set_cons_succ]
            refine wpAnyH_take (i := 9) (oi := ⟨some 6, _, _, _, _, _⟩) (v := ?vnpap69) rfl (by kernel_rfl) (by kernel_rfl) (by kernel_rfl) (fun _ _ _ h => h) (Or.inl ⟨by kernel_rfl, ?ynpap69⟩) (by assumption) ?rnpap69
            case ynpap69 =>
              intro w hSw
              try dsimp only at hSw
              obtain ⟨c0, c1, c2, c3, c4, c5, c6, c7, c8, c9, c10, c11⟩ := cells12 hSw.1; obtain ⟨f0, f1, f2, -⟩ := blk3 hSw.2
              first | (go_simp; done) | (go_simp; with_reducible rfl)
            try simp only [Act.put, List.setIfInBounds_toArray, List.set_cons_zero, List.set_cons_succ]
            refine wpAnyH_done (by kernel_rfl) ?_ _
          case bnpap23 =>
            obtain ⟨q1, hq1⟩ : ∃ q, q = w5.heap.size := ⟨_, rfl⟩
            obtain ⟨q2, hq2⟩ : ∃ q, q = w4.heap.size := ⟨_, rfl⟩
            have HFF := Lib.hid (And.intro HT7.out hHeld)
            rw [← hq1, ← hq2]
            exact key V4 V7 q1 q2 w7 HFF
          · exact key V4 V7 _ _ w7 (Lib.hid (And.intro HT7.out hHeld))
          · exact key V4 V7 _ _ w7 (Lib.hid (And.intro HT7.out hHeld))
        case key =>
          intro VV UU q1 q2 W8 HF8
          have HT8 := Lib.hid HF8.out.1
          have HXY := Lib.hid HF8.out.2
          clear HF8
          go_wp2_with fail
          refine wp_region_held_drew (S := (fun w' => w'.heap[wo.heap.size]? = some (.cells #[.int .i64 k1, .string x1, .string y1, .string z1, .int .i64 k2, .string x2, .string y2, .string z2, .int .i64 k3, .string x3, .string y3, .string z3] 29 (0, 0)) ∧ w'.heap[w2.heap.size]? = some (.cells #[.iface TA YA, .iface TB YB, .iface TC YC] 46 (0, 0)))) (by kernel_rfl) ?hSnpb0 (fun hHeld => ?_)
          case hSnpb0 => exact HXY.out
          refine wpAnyH_take (i := 0) (oi := ⟨some 47, _, _, _, _, _⟩) (v := ?vnpb0) rfl (by kernel_rfl) (by kernel_rfl) (by kernel_rfl) (fun _ _ _ h => h) (Or.inl ⟨by kernel_rfl, ?ynpb0⟩) (by assumption) ?rnpb0
          case ynpb0 =>
            intro w hSw
            try dsimp only at hSw
            obtain ⟨c0, c1, c2, c3, c4, c5, c6, c7, c8, c9, c10, c11⟩ := cells12 hSw.1; obtain ⟨f0, f1, f2, -⟩ := blk3 hSw.2
            first | (go_simp; done) | (go_simp; with_reducible rfl)
          try simp only [Act.put, List.setIfInBounds_toArray, List.set_cons_zero, List.set_cons_succ]
          refine wpAnyH_take (i := 1) (oi := ⟨some 48, _, _, _, _, _⟩) (v := ?vnpb1) rfl (by kernel_rfl) (by kernel_rfl) (by kernel_rfl) (fun _ _ _ h => h) (Or.inl ⟨by kernel_rfl, ?ynpb1⟩) (by assumption) ?rnpb1
          case ynpb1 =>
            intro w hSw
            try dsimp only at hSw
            obtain ⟨c0, c1, c2, c3, c4, c5, c6, c7, c8, c9, c10, c11⟩ := cells12 hSw.1; obtain ⟨f0, f1, f2, -⟩ := blk3 hSw.2
            first | (go_simp; done) | (go_simp; with_reducible rfl)
          try simp only [Act.put, List.setIfInBounds_toArray, List.set_cons_zero, List.set_cons_succ]
          refine wpAnyH_take (i := 3) (oi := ⟨some 50, _, _, _, _, _⟩) (v := ?vnpb3) rfl (by kernel_rfl) (by kernel_rfl) (by kernel_rfl) (fun _ _ _ h => h) (Or.inl ⟨by kernel_rfl, ?ynpb3⟩) (by assumption) ?rnpb3
          case ynpb3 =>
            intro w hSw
            try dsimp only at hSw
            obtain ⟨c0, c1, c2, c3, c4, c5, c6, c7, c8, c9, c10, c11⟩ := cells12 hSw.1; obtain ⟨f0, f1, f2, -⟩ := blk3 hSw.2
            first | (go_simp; done) | (go_simp; with_reducible rfl)
          try simp only [Act.put, List.setIfInBounds_toArray, List.set_cons_zero, List.set_cons_succ]
          refine wpAnyH_take (i := 4) (oi := ⟨some 51, _, _, _, _, _⟩) (v := ?vnpb4) rfl (by kernel_rfl) (by kernel_rfl) (by kernel_rfl) (fun _ _ _ h => h) (Or.inl ⟨by kernel_rfl, ?ynpb4⟩) (by assumption) ?rnpb4
          case ynpb4 =>
            intro w hSw
            try dsimp only at hSw
            obtain ⟨c0, c1, c2, c3, c4, c5, c6, c7, c8, c9, c10, c11⟩ := cells12 hSw.1; obtain ⟨f0, f1, f2, -⟩ := blk3 hSw.2
            first | (go_simp; done) | (go_simp; with_reducible rfl)
          try simp only [Act.put, List.setIfInBounds_toArray, List.set_cons_zero, List.set_cons_succ]
          refine wpAnyH_ready (rs := [2]) (by kernel_rfl) (by simp) ?_
          refine AllReadyH.cons (i := 2) (o := ⟨some 49, _, _, _, _, _⟩) rfl (fun K hK => ?_) AllReadyH.nil
          go_simp
          refine (HTXY.out _ (HB3.out.trans (HT8.out.1.drew.mono HB3.out.size))).mono ?_
          rintro e wz1 ⟨rfl, hb1⟩
          have G1 := Lib.hid ((HT8.out.below (Below.refl _ _).drew).below hb1)
          go_wp2_with fail
          refine hK.out _ _ ?_ (fun hHeld => ?_)
          · exact box2 (by assumption) hb1
          clear hK K
          try simp only [Act.put, List.setIfInBounds_toArray, List.set_cons_zero, List.set_cons_succ]
          refine wpAnyH_ready (rs := [5]) (by kernel_rfl) (by simp) ?_
          refine AllReadyH.cons (i := 5) (o := ⟨some 52, _, _, _, _, _⟩) rfl (fun K hK => ?_) AllReadyH.nil
          go_simp
          refine (HRXY.out _).mono ?_
          rintro e wz2 ⟨rfl, hb2⟩
          have G2 := Lib.hid (G1.out.below hb2)
          go_wp2_with fail
          refine hK.out _ _ ?_ (fun hHeld => ?_)
          · exact box2 (by assumption) hb2
          clear hK K
          try simp only [Act.put, List.setIfInBounds_toArray, List.set_cons_zero, List.set_cons_succ]
          refine wpAnyH_take (i := 6) (oi := ⟨some 53, _, _, _, _, _⟩) (v := ?vnpb6) rfl (by kernel_rfl) (by kernel_rfl) (by kernel_rfl) (fun _ _ _ h => h) (Or.inl ⟨by kernel_rfl, ?ynpb6⟩) (by assumption) ?rnpb6
          case ynpb6 =>
            intro w hSw
            try dsimp only at hSw
            obtain ⟨c0, c1, c2, c3, c4, c5, c6, c7, c8, c9, c10, c11⟩ := cells12 hSw.1; obtain ⟨f0, f1, f2, -⟩ := blk3 hSw.2
            first | (go_simp; done) | (go_simp; with_reducible rfl)
          try simp only [Act.put, List.setIfInBounds_toArray, List.set_cons_zero, List.set_cons_succ]
          refine wpAnyH_take (i := 7) (oi := ⟨some 54, _, _, _, _, _⟩) (v := ?vnpb7) rfl (by kernel_rfl) (by kernel_rfl) (by kernel_rfl) (fun _ _ _ h => h) (Or.inl ⟨by kernel_rfl, ?ynpb7⟩) (by assumption) ?rnpb7
          case ynpb7 =>
            intro w hSw
            try dsimp only at hSw
            obtain ⟨c0, c1, c2, c3, c4, c5, c6, c7, c8, c9, c10, c11⟩ := cells12 hSw.1; obtain ⟨f0, f1, f2, -⟩ := blk3 hSw.2
            first | (go_simp; done) | (go_simp; with_reducible rfl)
          try simp only [Act.put, List.setIfInBounds_toArray, List.set_cons_zero, List.set_cons_succ]
          refine wpAnyH_take (i := 8) (oi := ⟨some 55, _, _, _, _, _⟩) (v := ?vnpb8) rfl (by kernel_rfl) (by kernel_rfl) (by kernel_rfl) (fun _ _ _ h => h) (Or.inl ⟨by kernel_rfl, ?ynpb8⟩) (by assumption) ?rnpb8
          case ynpb8 =>
            intro w hSw
            try dsimp only at hSw
            obtain ⟨c0, c1, c2, c3, c4, c5, c6, c7, c8, c9, c10, c11⟩ := cells12 hSw.1; obtain ⟨f0, f1, f2, -⟩ := blk3 hSw.2
            first | (go_simp; done) | (go_simp; with_reducible rfl)
          try simp only [Act.put, List.setIfInBounds_toArray, List.set_cons_zero, List.set_cons_succ]
          refine wpAnyH_take (i := 11) (oi := ⟨some 58, _, _, _, _, _⟩) (v := ?vnpb11) rfl (by kernel_rfl) (by kernel_rfl) (by kernel_rfl) (fun _ _ _ h => h) (Or.inl ⟨by kernel_rfl, ?ynpb11⟩) (by assumption) ?rnpb11
          case ynpb11 =>
            intro w hSw
            try dsimp only at hSw
            obtain ⟨c0, c1, c2, c3, c4, c5, c6, c7, c8, c9, c10, c11⟩ := cells12 hSw.1; obtain ⟨f0, f1, f2, -⟩ := blk3 hSw.2
            first | (go_simp; done) | (go_simp; with_reducible rfl)
          try simp only [Act.put, List.setIfInBounds_toArray, List.set_cons_zero, List.set_cons_succ]
          refine wpAnyH_ready (rs := [9, 12]) (by kernel_rfl) (by simp) ?_
          refine AllReadyH.cons (i := 9) (o := ⟨some 56, _, _, _, _, _⟩) rfl (fun K hK => ?bnpb9) (AllReadyH.cons (i := 12) (o := ⟨some 59, _, _, _, _, _⟩) rfl (fun K hK => ?bnpb12) (AllReadyH.nil))
          case' bnpb9 =>
            go_simp
            refine (HTTY.out _ (HB3.out.trans (G2.out.1.mono HB3.out.size))).mono ?_
            rintro e wz3 ⟨rfl, hb3⟩
            have G3 := Lib.hid (G2.out.below hb3)
            go_wp2_with fail
            refine hK.out _ _ ?_ (fun hHeld => ?_)
            · exact box2 (by assumption) hb3
            clear hK K
            try simp only [Act.put, List.setIfInBounds_toArray, List.set_cons_zero, List.set_cons_succ]
            refine wpAnyH_take (i := 10) (oi := ⟨some 57, _, _, _, _, _⟩) (v := ?vnpbp910) rfl (by kernel_rfl) (by kernel_rfl) (by kernel_rfl) (fun _ _ _ h => h) (Or.inl ⟨by kernel_rfl, ?ynpbp910⟩) (by assumption) ?rnpbp910
            case ynpbp910 =>
              intro w hSw
              try dsimp only at hSw
              obtain ⟨c0, c1, c2, c3, c4, c5, c6, c7, c8, c9, c10, c11⟩ := cells12 hSw.1; obtain ⟨f0, f1, f2, -⟩ := blk3 hSw.2
              first | (go_simp; done) | (go_simp; with_reducible rfl)
            try simp only [Act.put, List.setIfInBounds_toArray, List.set_cons_zero, List.set_cons_succ]
            refine wpAnyH_ready (rs := [12]) (by kernel_rfl) (by simp) ?_
            refine AllReadyH.cons (i := 12) (o := ⟨some 59, _, _, _, _, _⟩) rfl (fun K hK => ?_) AllReadyH.nil
            go_simp
            have G4 := Lib.hid (G3.out.below (alloc_belowP wz3 (.cells #[.int .i64 k1, .string x1, .string y1, .string z1, .int .i64 k2, .string x2, .string y2, .string z2, .int .i64 k3, .string x3, .string y3, .string z3] 29)))
            have x5 : RTriRow (wz3.alloc (.cells #[.int .i64 k1, .string x1, .string y1, .string z1, .int .i64 k2, .string x2, .string y2, .string z2, .int .i64 k3, .string x3, .string y3, .string z3] 29)) wz3.heap.size (.slice (some ⟨wz3.heap.size, 0, none⟩) 1 1) [t] := by have := RowOf.new (T := 29) rtriC_len wz3 [t] (by simp); rw [show [t].flatMap rtriC = [.int .i64 k1, .string x1, .string y1, .string z1, .int .i64 k2, .string x2, .string y2, .string z2, .int .i64 k3, .string x3, .string y3, .string z3] from by rw [List.flatMap_singleton, HRC.out]] at this; exact this
            have x5a := Lib.hid x5
            clear x5
            refine hK.out _ _ ?_ (fun hHeld => ?_)
            · exact box2 (by assumption) (alloc_belowP _ _)
            clear hK K
            try simp only [Act.put, List.setIfInBounds_toArray, List.set_cons_zero, List.set_cons_succ]
            refine wpAnyH_ready (rs := [13]) (by kernel_rfl) (by simp) ?_
            refine AllReadyH.cons (i := 13) (o := ⟨some 60, _, _, _, _, _⟩) rfl (fun K hK => ?_) AllReadyH.nil
            go_simp
            refine (HRPY.out _ _ _ x5a.out).mono ?_
            rintro e wz5 ⟨rfl, hb5⟩
            have HTE := Lib.hid (G4.out.below hb5)
            go_wp2_with fail
            refine hK.out _ _ ?_ (fun hHeld => ?_)
            · exact box2 (by assumption) hb5
            clear hK K
            try simp only [Act.put, List.setIfInBounds_toArray, List.set_cons_zero, List.set_cons_succ]
            refine wpAnyH_take (i := 14) (oi := ⟨some 61, _, _, _, _, _⟩) (v := ?vnpbp914) rfl (by kernel_rfl) (by kernel_rfl) (by kernel_rfl) (fun _ _ _ h => h) (Or.inl ⟨by kernel_rfl, ?ynpbp914⟩) (by assumption) ?rnpbp914
            case ynpbp914 =>
              intro w hSw
              try dsimp only at hSw
              obtain ⟨c0, c1, c2, c3, c4, c5, c6, c7, c8, c9, c10, c11⟩ := cells12 hSw.1; obtain ⟨f0, f1, f2, -⟩ := blk3 hSw.2
              first | (go_simp; done) | (go_simp; with_reducible rfl)
            try simp only [Act.put, List.setIfInBounds_toArray, List.set_cons_zero, List.set_cons_succ]
            refine wpAnyH_take (i := 15) (oi := ⟨some 62, _, _, _, _, _⟩) (v := ?vnpbp915) rfl (by kernel_rfl) (by kernel_rfl) (by kernel_rfl) (fun _ _ _ h => h) (Or.inl ⟨by kernel_rfl, ?ynpbp915⟩) (by assumption) ?rnpbp915
            case ynpbp915 =>
              intro w hSw
              try dsimp only at hSw
              obtain ⟨c0, c1, c2, c3, c4, c5, c6, c7, c8, c9, c10, c11⟩ := cells12 hSw.1; obtain ⟨f0, f1, f2, -⟩ := blk3 hSw.2
              first | (go_simp; done) | (go_simp; with_reducible rfl)
            try simp only [Act.put, List.setIfInBounds_toArray, List.set_cons_zero, List.set_cons_succ]
            refine wpAnyH_done (by kernel_rfl) ?_ _
          case' bnpb12 =>
            go_simp
            have G4 := Lib.hid (G2.out.below (alloc_belowP wz2 (.cells #[.int .i64 k1, .string x1, .string y1, .string z1, .int .i64 k2, .string x2, .string y2, .string z2, .int .i64 k3, .string x3, .string y3, .string z3] 29)))
            have x5 : RTriRow (wz2.alloc (.cells #[.int .i64 k1, .string x1, .string y1, .string z1, .int .i64 k2, .string x2, .string y2, .string z2, .int .i64 k3, .string x3, .string y3, .string z3] 29)) wz2.heap.size (.slice (some ⟨wz2.heap.size, 0, none⟩) 1 1) [t] := by have := RowOf.new (T := 29) rtriC_len wz2 [t] (by simp); rw [show [t].flatMap rtriC = [.int .i64 k1, .string x1, .string y1, .string z1, .int .i64 k2, .string x2, .string y2, .string z2, .int .i64 k3, .string x3, .string y3, .string z3] from by rw [List.flatMap_singleton, HRC.out]] at this; exact this
            have x5a := Lib.hid x5
            clear x5
            refine hK.out _ _ ?_ (fun hHeld => ?_)
            · exact box2 (by assumption) (alloc_belowP _ _)
            clear hK K
            try simp only [Act.put, List.setIfInBounds_toArray, List.set_cons_zero, List.set_cons_succ]
            refine wpAnyH_ready (rs := [9]) (by kernel_rfl) (by simp) ?_
            refine AllReadyH.cons (i := 9) (o := ⟨some 56, _, _, _, _, _⟩) rfl (fun K hK => ?_) AllReadyH.nil
            go_simp
            refine (HTTY.out _ (HB3.out.trans (G4.out.1.mono HB3.out.size))).mono ?_
            rintro e wz3 ⟨rfl, hb3⟩
            have G5 := Lib.hid (G4.out.below hb3)
            have x5b := Lib.hid (x5a.out.below hb3)
            go_wp2_with fail
            refine hK.out _ _ ?_ (fun hHeld => ?_)
            · exact box2 (by assumption) hb3
            clear hK K
            try simp only [Act.put, List.setIfInBounds_toArray, List.set_cons_zero, List.set_cons_succ]
            refine wpAnyH_take (i := 10) (oi := ⟨some 57, _, _, _, _, _⟩) (v := ?vnpbp1210) rfl (by kernel_rfl) (by kernel_rfl) (by kernel_rfl) (fun _ _ _ h => h) (Or.inl ⟨by kernel_rfl, ?ynpbp1210⟩) (by assumption) ?rnpbp1210
            case ynpbp1210 =>
              intro w hSw
              try dsimp only at hSw
              obtain ⟨c0, c1, c2, c3, c4, c5, c6, c7, c8, c9, c10, c11⟩ := cells12 hSw.1; obtain ⟨f0, f1, f2, -⟩ := blk3 hSw.2
              first | (go_simp; done) | (go_simp; with_reducible rfl)
            try simp only [Act.put, List.setIfInBounds_toArray, List.set_cons_zero, List.set_cons_succ]
            refine wpAnyH_ready (rs := [13]) (by kernel_rfl) (by simp) ?_
            refine AllReadyH.cons (i := 13) (o := ⟨some 60, _, _, _, _, _⟩) rfl (fun K hK => ?_) AllReadyH.nil
            go_simp
            refine (HRPY.out _ _ _ x5b.out).mono ?_
            rintro e wz5 ⟨rfl, hb5⟩
            have HTE := Lib.hid (G5.out.below hb5)
            go_wp2_with fail
            refine hK.out _ _ ?_ (fun hHeld => ?_)
            · exact box2 (by assumption) hb5
            clear hK K
            try simp only [Act.put, List.setIfInBounds_toArray, List.set_cons_zero, List.set_cons_succ]
            refine wpAnyH_take (i := 14) (oi := ⟨some 61, _, _, _, _, _⟩) (v := ?vnpbp1214) rfl (by kernel_rfl) (by kernel_rfl) (by kernel_rfl) (fun _ _ _ h => h) (Or.inl ⟨by kernel_rfl, ?ynpbp1214⟩) (by assumption) ?rnpbp1214
            case ynpbp1214 =>
              intro w hSw
              try dsimp only at hSw
              obtain ⟨c0, c1, c2, c3, c4, c5, c6, c7, c8, c9, c10, c11⟩ := cells12 hSw.1; obtain ⟨f0, f1, f2, -⟩ := blk3 hSw.2
              first | (go_simp; done) | (go_simp; with_reducible rfl)
            try simp only [Act.put, List.setIfInBounds_toArray, List.set_cons_zero, List.set_cons_succ]
            refine wpAnyH_take (i := 15) (oi := ⟨some 62, _, _, _, _, _⟩) (v := ?vnpbp1215) rfl (by kernel_rfl) (by kernel_rfl) (by kernel_rfl) (fun _ _ _ h => h) (Or.inl ⟨by kernel_rfl, ?ynpbp1215⟩) (by assumption) ?rnpbp1215
            case ynpbp1215 =>
              intro w hSw
              try dsimp only at hSw
              obtain ⟨c0, c1, c2, c3, c4, c5, c6, c7, c8, c9, c10, c11⟩ := cells12 hSw.1; obtain ⟨f0, f1, f2, -⟩ := blk3 hSw.2
              first | (go_simp; done) | (go_simp; with_reducible rfl)
            try simp only [Act.put, List.setIfInBounds_toArray, List.set_cons_zero, List.set_cons_succ]
            refine wpAnyH_done (by kernel_rfl) ?_ _
          all_goals
            go_wp2_with fail
            go_round
            case measure => simp only [intOf]; omega
            case rel => exact ⟨k + 1, by omega, by push_cast; rfl, by rw [HYES.out (by trivial)]; exact HTE⟩
    · have t1 : decide ((k : Int) < (ts.length : Int)) = false := decide_eq_false (by omega)
      have HTF := Lib.hid (show T3 w0 u5 (goods G ts) u6 (goods G ts) (.slice none 0 0) [] wo from by have := HT.out; rw [List.take_of_length_le (show ts.length ≤ k by omega)] at this; exact this)
      have hgl := goods_len G ts
      have hl10 := HLEN1.out
      obtain ⟨gl, hgl0⟩ : ∃ gl, gl = goods G ts := ⟨_, rfl⟩
      rw [← hgl0] at HTF hgl HG1
      have hla := lines_all (G := G) gl (fun t ht => ⟨(HG1.out t ht).1, (HG1.out t ht).2.2.1⟩)
      have hAl : (linesS gl).length ≤ 28170 := by have := hla.1; omega
      have hsz := tB_size (linesS gl)
      have HPR := Lib.hid (fun wx (hx : T3 w0 u5 gl u6 gl (.slice none 0 0) [] wx) => print_any (G := G) wx hx.2.2.1 (fun t ht => ⟨(HG1.out t ht).1, (HG1.out t ht).2.1⟩) (by omega) (HEs.out.below HEs.out.lt (HB3.out.trans (hx.1.mono HB3.out.size))))
      have HRR := Lib.hid (fun wx (hx : T3 w0 u5 gl u6 gl (.slice none 0 0) [] wx) => rprint_any HGF.out wx hx.2.1 (fun t ht => ⟨(HG1.out t ht).1, (HG1.out t ht).2.1⟩) (by omega))
      have HPA := Lib.hid (fun wx (hx : Below w.heap.size w wx) => parse_any HGF.out (tBytes (linesS gl)) (linesS gl) [] wx (read_tB hla.2) (by omega) (by omega) (HEs.out.below HEs.out.lt hx) (HMs.out.below hx))
      unfold ParseEnd parseS at HPA
      rw [if_pos rfl, parse_back _ (fun t ht => (HG1.out t ht).1)] at HPA
      dsimp only at HPA
      have hall : gl.length ≤ 100000 := by omega
      generalize tBytes (linesS gl) = Z at *
      clear hla hAl hsz hgl hl10 hgl0 HT HOWN HOWNU
      go_wp2_with fail
      refine (HPR.out _ HTF.out).mono ?_
      rintro e w4 ⟨rfl, hb4⟩
      have HT4 := Lib.hid (HTF.out.below hb4)
      have HB4 := Lib.hid (HB3.out.trans (HT4.out.1.mono HB3.out.size))
      clear hb4
      go_wp2_with fail
      refine (HPA.out _ HB4.out).mono ?_
      rintro e w6 ⟨V16, rfl, hr6, hb6⟩
      have HT6 := Lib.hid (HT4.out.below hb6)
      have HV6 := Lib.hid hr6
      have HB6 := Lib.hid (HB4.out.trans (hb6.mono HB4.out.size))
      clear hb6 hr6
      go_wp2_with fail
      refine (HRR.out _ HT6.out).mono ?_
      rintro e w7 ⟨rfl, hb7⟩
      have HT7 := Lib.hid (HT6.out.below hb7)
      have HB7 := Lib.hid (HB6.out.trans (hb7.mono HB6.out.size))
      have HIS := Lib.hid (is4_any _ _ V16 u5 gl w7 (HV6.out.below hb7) HT7.out.2.1 (fun t ht => (HG1.out t ht).2.2.2) hall)
      clear hb7
      go_wp2_with fail
      refine HIS.out.mono ?_
      rintro e w8 ⟨rfl, hb8⟩
      go_wp2_with fail
      go_ret
      exact ⟨rfl, HB7.out.trans (hb8.mono HB7.out.size)⟩
end Go.Proofs.YtbchkhjkajagfaaGreatDoor
