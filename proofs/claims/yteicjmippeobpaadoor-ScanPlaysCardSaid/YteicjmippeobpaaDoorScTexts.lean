/- The law ScanTexts: its walk. Every string. -/
import Derived.Test.YteicjmippeobpaaDoorScNew
import Derived.Test.YteicjmippeobpaaDoorScJoins
namespace Go.Proofs.YteicjmippeobpaaDoor
open Go Go.RowKit
/-- a row of integers, cell for cell -/
def RowI (L : List Int) (g : Nat) (w : World) : Prop := (∀ j (h : j < L.length), w.cell? ⟨g, j, none⟩ = some (.int .i64 (L[j]'h))) ∧ g < w.heap.size
theorem RowI.below {L : List Int} {g : Nat} {w w' : World} (h : RowI L g w) (hb : Below w.heap.size w w') : RowI L g w' := ⟨fun j hj => (cell_same (hb.block g h.2)).trans (h.1 j hj), Nat.lt_of_lt_of_le h.2 hb.size⟩
theorem RowI.sk {L : List Int} {g X : Nat} {w w' : World} (h : RowI L g w) (hb : SK X w w') (hg : g ≠ X) : RowI L g w' := ⟨fun j hj => (cell_same (hb.2 g h.2 hg)).trans (h.1 j hj), Nat.lt_of_lt_of_le h.2 hb.1.size⟩
theorem row_of {w : World} {base : Nat} {L : List Int} {a : Option Addr} {cap : Nat} (ho : w.ownsRow base 3 1 (.slice a L.length cap) L.length (intsV L)) (hn : 0 < L.length) : ∃ g, a = some ⟨g, 0, none⟩ ∧ RowI L g w := by
  obtain ⟨g, h1, h2⟩ := ints_cells ho hn
  exact ⟨g, h1, h2, block_lt_of_cell (h2 0 hn)⟩
set_option maxRecDepth 100000 in
set_option maxHeartbeats 3200000 in
theorem texts_walk (s : ByteArray) (w : World) (he : Esc w) (hs : s.size ≤ 9223372036854775807) : Calls Tryd.prog 7 #[.string s] w fun e w' => e = .returned (.bool true) ∧ Below w.heap.size w w' := by
  have HA := Lib.hid (awake_any w he)
  have HA2 := Lib.hid (fun w' (hb : Below w.heap.size w w') => awake_any w' (he.below he.lt hb))
  clear he
  by_cases h1 : (300 : Int) < s.size
  · go_enter Tryd.func7, Tryd.ntmps7
    go_wp2_with fail
    refine HA.out.mono ?_
    rintro e w1 ⟨rfl, hb1⟩
    go_wp2_with fail
    refine (HA2.out _ hb1).mono ?_
    rintro e w2 ⟨rfl, hb2⟩
    go_wp2_with fail
    go_ret
    exact ⟨rfl, hb1.trans (hb2.mono hb1.size)⟩
  have a3 : (s.size : Int) ≤ 300 := by omega
  clear h1 hs
  obtain ⟨l, r, hr⟩ := read_some s.data.toList
  have SG := Lib.hid (fun w => signs_any s l r w hr (by omega))
  have GD := Lib.hid (fun w => good_any s l r w hr (by omega))
  have LN := Lib.hid (fun w => len_any s l r w hr (by omega))
  have hll := read_len hr
  have e1 : s.data.toList.length = s.size := rfl
  have hl3 : l.length ≤ 300 := by omega
  have HSG := Lib.hid hr.2.1
  clear hll e1
  rcases r with _ | ⟨x, r⟩
  · have NW := Lib.hid (fun w => new_ok s l w hr (by omega))
    clear hr
    go_enter Tryd.func7, Tryd.ntmps7
    go_wp2_with fail
    refine HA.out.mono ?_
    rintro e w1 ⟨rfl, hb1⟩
    go_wp2_with fail
    refine (SG.out _).mono ?_
    rintro e w2 ⟨a1, c1, rfl, ho, hb2⟩
    have HB := Lib.hid (hb1.trans (hb2.mono hb1.size))
    have HO := Lib.hid ho
    clear hb1 hb2 ho
    go_wp2_with fail
    refine (GD.out _).mono ?_
    rintro e w3 ⟨rfl, hb⟩
    replace HB := Lib.hid (HB.out.trans (hb.mono HB.out.size))
    replace HO := Lib.hid (ownsRow_below HO.out hb)
    clear hb
    go_wp2_with fail
    refine (LN.out _).mono ?_
    rintro e w4 ⟨rfl, hb⟩
    replace HB := Lib.hid (HB.out.trans (hb.mono HB.out.size))
    replace HO := Lib.hid (ownsRow_below HO.out hb)
    clear hb
    go_wp2_with fail
    refine (NW.out _).mono ?_
    rintro e w5 ⟨X, g, cap, rfl, hS, hX, hg, hb⟩
    have hXw : w.heap.size ≤ X := by have := HB.out.size; omega
    replace HB := Lib.hid (HB.out.trans (hb.mono HB.out.size))
    have HO5 := Lib.hid (ownsRow_below HO.out hb)
    have HS := Lib.hid hS
    clear hb hS
    rcases Nat.eq_zero_or_pos l.length with h0 | h0
    · obtain rfl : l = [] := List.eq_nil_of_length_eq_zero h0
      go_wp2_with fail
      refine wp_loop_rounds 1 ?_
      rw [rounds_succ]
      go_wp2_with fail
      refine (end_yes [] ([] : List Int).length X g cap _ HS.out rfl).mono ?_
      rintro e w6 ⟨rfl, hb⟩
      replace HS := Lib.hid (HS.out.keep hb)
      replace HB := Lib.hid (HB.out.trans (hb.mono HB.out.size))
      clear hb
      go_wp2_with fail
      refine (peek_no [] ([] : List Int).length X g cap _ HS.out rfl).mono ?_
      rintro e w7 ⟨rfl, hb⟩
      replace HS := Lib.hid (HS.out.keep hb)
      replace HB := Lib.hid (HB.out.trans (hb.mono HB.out.size))
      clear hb
      go_wp2_with fail
      refine (next_no [] ([] : List Int).length X g cap _ HS.out rfl).mono ?_
      rintro e w8 ⟨rfl, hs8, hk8⟩
      replace HS := Lib.hid hs8
      replace HB := Lib.hid (HB.out.trans (hk8.1.mono hXw))
      clear hs8 hk8
      go_wp2_with fail
      refine (place_any [] ([] : List Int).length X g cap _ HS.out).mono ?_
      rintro e w9 ⟨rfl, rfl⟩
      go_wp2_with fail
      go_ret
      exact ⟨rfl, HB.out⟩
    · obtain ⟨g1, rfl, hR⟩ := row_of HO5.out h0
      have hgX : g1 ≠ X := by
        obtain ⟨g2, e2, hR2⟩ := row_of HO.out h0
        injection e2 with e2
        injection e2 with e2
        have := hR2.2
        omega
      have HR := Lib.hid hR
      clear hR
      go_wp2_with fail
      go_loopw [66] (fun i wr => ∃ k : Nat, k ≤ l.length ∧ i = .int .i64 k ∧ Hid (ScW l k X g cap wr) ∧ Hid (RowI l g1 wr) ∧ Hid (Below w.heap.size w wr)) (fun i _ => l.length - (intOf i).toNat)
      case atStart => exact ⟨0, by omega, rfl, HS, HR, HB⟩
      case round =>
        obtain ⟨k, hk, rfl, hS, hR, hB⟩ := hrel
        clear HS HR HB
        by_cases hlt : k < l.length
        · have hc := hR.out.1 k hlt
          obtain ⟨n, hn⟩ : ∃ n, n = l[k]'hlt := ⟨_, rfl⟩
          rw [← hn] at hc
          have hsn := HSG.out _ (List.getElem_mem hlt)
          rw [← hn] at hsn
          have hn0 : 0 ≤ n ∧ n ≤ 1114111 := by unfold SignP at hsn; omega
          obtain ⟨m0, m1⟩ := hn0
          have HNN := Lib.hid hn
          have HSN := Lib.hid hsn
          clear hn hsn
          go_wp2_with fail
          refine (end_no l k X g cap _ hS.out hlt).mono ?_
          rintro e w6 ⟨rfl, hb⟩
          replace hS := Lib.hid (hS.out.keep hb)
          replace hR := Lib.hid (hR.out.below hb)
          replace hB := Lib.hid (hB.out.trans (hb.mono hB.out.size))
          clear hb hc
          go_wp2_with fail
          refine (place_any l k X g cap _ hS.out).mono ?_
          rintro e w6' ⟨rfl, rfl⟩
          go_wp2_with fail
          refine (peek_yes l k X g cap _ hS.out hlt (by omega)).mono ?_
          rintro e w7 ⟨rfl, hb⟩
          replace hS := Lib.hid (hS.out.keep hb)
          replace hR := Lib.hid (hR.out.below hb)
          replace hB := Lib.hid (hB.out.trans (hb.mono hB.out.size))
          clear hb
          rw [← HNN.out]
          go_wp2_with fail
          refine (next_yes l k X g cap _ hS.out hlt (by omega) (by rw [← HNN.out]; exact HSN.out)).mono ?_
          rintro e w8 ⟨rfl, hs8, hk8⟩
          replace hR := Lib.hid (hR.out.sk hk8 hgX)
          replace hB := Lib.hid (hB.out.trans (hk8.1.mono hXw))
          replace hS := Lib.hid hs8
          clear hk8 hs8
          rw [← HNN.out]
          go_wp2_with fail
          go_roundw
          case rel => exact ⟨k + 1, by omega, by go_num, hS, hR, hB⟩
          case measure => simp [intOf]; omega
        · obtain rfl : k = l.length := by omega
          have HS := hS
          have HB := hB
          clear hS hB hR
          go_wp2_with fail
          refine (end_yes l l.length X g cap _ HS.out rfl).mono ?_
          rintro e w6 ⟨rfl, hb⟩
          replace HS := Lib.hid (HS.out.keep hb)
          replace HB := Lib.hid (HB.out.trans (hb.mono HB.out.size))
          clear hb
          go_wp2_with fail
          refine (peek_no l l.length X g cap _ HS.out rfl).mono ?_
          rintro e w7 ⟨rfl, hb⟩
          replace HS := Lib.hid (HS.out.keep hb)
          replace HB := Lib.hid (HB.out.trans (hb.mono HB.out.size))
          clear hb
          go_wp2_with fail
          refine (next_no l l.length X g cap _ HS.out rfl).mono ?_
          rintro e w8 ⟨rfl, hs8, hk8⟩
          replace HS := Lib.hid hs8
          replace HB := Lib.hid (HB.out.trans (hk8.1.mono hXw))
          clear hs8 hk8
          go_wp2_with fail
          refine (place_any l l.length X g cap _ HS.out).mono ?_
          rintro e w9 ⟨rfl, rfl⟩
          go_wp2_with fail
          go_ret
          exact ⟨rfl, HB.out⟩
  · have NW := Lib.hid (fun w => new_bad s l (x :: r) w hr (by simp) (by omega))
    clear hr
    go_enter Tryd.func7, Tryd.ntmps7
    go_wp2_with fail
    refine HA.out.mono ?_
    rintro e w1 ⟨rfl, hb1⟩
    go_wp2_with fail
    refine (SG.out _).mono ?_
    rintro e w2 ⟨a1, c1, rfl, ho, hb2⟩
    have HB := Lib.hid (hb1.trans (hb2.mono hb1.size))
    clear hb1 hb2 ho
    go_wp2_with fail
    refine (GD.out _).mono ?_
    rintro e w3 ⟨rfl, hb⟩
    replace HB := Lib.hid (HB.out.trans (hb.mono HB.out.size))
    clear hb
    go_wp2_with fail
    refine (LN.out _).mono ?_
    rintro e w4 ⟨rfl, hb⟩
    replace HB := Lib.hid (HB.out.trans (hb.mono HB.out.size))
    clear hb
    go_wp2_with fail
    refine (NW.out _).mono ?_
    rintro e w5 ⟨rfl, hb⟩
    replace HB := Lib.hid (HB.out.trans (hb.mono HB.out.size))
    clear hb
    go_wp2_with fail
    go_ret
    exact ⟨rfl, HB.out⟩
end Go.Proofs.YteicjmippeobpaaDoor
