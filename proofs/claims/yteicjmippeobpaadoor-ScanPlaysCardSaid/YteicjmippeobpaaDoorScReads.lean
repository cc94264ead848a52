/- The law ScanReads: its walk. Every string and place. -/
import Derived.Test.YteicjmippeobpaaDoorScRQuoted
namespace Go.Proofs.YteicjmippeobpaaDoor
open Go Go.RowKit
set_option linter.unusedVariables false
theorem SgAt.cls {l : List Int} {a : Option Addr} {c X : Nat} {w : World} (h : SgAt l a c X w) : ClsAt l a l.length X w := by
  rcases h with ⟨rfl, _, _⟩ | ⟨g, rfl, hR, hc, hg⟩
  · exact ⟨rfl, .inl rfl⟩
  · refine ⟨rfl, .inr ⟨g, 0, rfl, by omega, hR.2, fun j hj => ?_⟩⟩
    rw [Nat.zero_add, hR.1 j hj, List.getD_eq_getElem?_getD, List.getElem?_eq_getElem hj]
    rfl
theorem own_cls {w : World} {B X n : Nat} {L : List Int} {a : Option Addr} {c : Nat} (h : w.ownsRow B 3 1 (.slice a n c) n (intsV L)) (hn : n = L.length) (hX : X < B) : ClsAt L a n X w := by
  subst hn
  refine ⟨rfl, ?_⟩
  rcases h.2 with ⟨h1, h2⟩ | ⟨g, cap, cur, h1, hb, hg, rest⟩
  · exact .inl h2
  · injection h1 with h1 _ _
    subst h1
    refine .inr ⟨g, 0, rfl, by omega, (Array.getElem?_eq_some_iff.1 hg).1, fun j hj => ?_⟩
    rw [Nat.zero_add, h.cellAt j (by omega)]
    unfold intsV
    rw [List.getElem?_map, List.getD_eq_getElem?_getD, List.getElem?_eq_getElem hj]
    rfl
theorem qgo_sign (l : List Int) (hl : ∀ n ∈ l, SignP n) : ∀ (f i : Nat) (acc r : List Int) (j : Nat), (∀ n ∈ acc, SignP n) → qgo l f i acc = (some r, j) → (∀ n ∈ r, SignP n) ∧ r.length ≤ acc.length + f := by
  intro f
  induction f with
  | zero => intro i acc r j ha h; unfold qgo at h; injection h with h1 h2; cases h1
  | succ f ih =>
    intro i acc r j ha h
    unfold qgo at h
    split at h
    · rename_i hlt
      split at h
      · injection h with h1 h2; injection h1 with h1; subst h1; exact ⟨ha, by omega⟩
      · split at h
        · split at h
          · rename_i x k hx
            have hs := (escV_some hx).2.2
            obtain ⟨h1, h2⟩ := ih _ _ _ _ (fun n hn => by
              rcases List.mem_append.1 hn with h | h
              · exact ha n h
              · obtain rfl := List.mem_singleton.1 h; exact hs) h
            rw [List.length_append] at h2
            exact ⟨h1, by simp at h2; omega⟩
          · injection h with h1 h2; cases h1
        · split at h
          · injection h with h1 h2; cases h1
          · obtain ⟨h1, h2⟩ := ih _ _ _ _ (fun n hn => by
              rcases List.mem_append.1 hn with h | h
              · exact ha n h
              · obtain rfl := List.mem_singleton.1 h; exact hl _ (List.getElem_mem hlt)) h
            rw [List.length_append] at h2
            exact ⟨h1, by simp at h2; omega⟩
    · injection h with h1 h2; cases h1
theorem quotedV_sign {l : List Int} (hl : ∀ n ∈ l, SignP n) {p j : Nat} {r : List Int} (h : quotedV l p = (some r, j)) : (∀ n ∈ r, SignP n) ∧ r.length ≤ l.length := by
  unfold quotedV at h
  split at h
  · have := qgo_sign l hl _ _ _ _ _ (by simp) h
    exact ⟨this.1, by have := this.2; simp at this; omega⟩
  · injection h with h1 h2; cases h1
set_option maxRecDepth 100000 in
set_option maxHeartbeats 6400000 in
theorem reads_walk (s : ByteArray) (a : Int) (w : World) (he : Esc w) (hs : s.size ≤ 9223372036854775807) (a0 : 0 ≤ a) (a255 : a ≤ 255) : Calls Tryd.prog 11 #[.string s, .int .u8 a] w fun e w' => e = .returned (.bool true) ∧ Below w.heap.size w w' := by
  have HA := Lib.hid (awake_any w he)
  have HA2 := Lib.hid (fun w' (hb : Below w.heap.size w w') => awake_any w' (he.below he.lt hb))
  have HEs := Lib.hid he
  clear he
  by_cases h1 : (300 : Int) < s.size
  · go_enter Tryd.func11, Tryd.ntmps11
    go_wp2_with fail
    refine HA.out.mono ?_
    rintro e w1 ⟨rfl, hb1⟩
    go_wp2_with fail
    refine (HA2.out _ hb1).mono ?_
    rintro e w2 ⟨rfl, hb2⟩
    go_wp2_with fail
    go_ret
    exact ⟨rfl, hb1.trans (hb2.mono hb1.size)⟩
  have a3 : (s.size : Int) ≤ 300 := by omega
  clear h1 hs
  obtain ⟨l, r, hr⟩ := read_some s.data.toList
  have hll := read_len hr
  have e1 : s.data.toList.length = s.size := rfl
  have hl3 : l.length ≤ 300 := by omega
  have HSG := Lib.hid hr.2.1
  clear hll e1
  rcases r with _ | ⟨x, r⟩
  · have NW := Lib.hid (fun w => new_ok s l w hr (by omega))
    have SG := Lib.hid (fun w => signs_row s l w hr (by omega))
    have HRD := Lib.hid hr
    clear hr
    obtain ⟨K, hK⟩ : ∃ K : Nat, (K : Int) = a % ((l.length : Int) + 1) := ⟨(a % ((l.length : Int) + 1)).toNat, by have := Int.emod_nonneg a (show ((l.length : Int) + 1) ≠ 0 by omega); omega⟩
    have hK2 : K ≤ l.length := by have := Int.emod_lt_of_pos a (show 0 < ((l.length : Int) + 1) by omega); omega
    have hmod := hK.symm
    clear hK
    go_enter Tryd.func11, Tryd.ntmps11
    go_wp2_with fail
    refine HA.out.mono ?_
    rintro e w1 ⟨rfl, hb1⟩
    go_wp2_with fail
    refine (SG.out _).mono ?_
    rintro e w2 ⟨a1, c1, rfl, ho, hb2⟩
    have HB := Lib.hid (hb1.trans (hb2.mono hb1.size))
    have HO := Lib.hid ho
    clear hb1 hb2 ho
    go_wp2_with fail
    refine (NW.out _).mono ?_
    rintro e w5 ⟨X, g, cap, rfl, hS, hX, hg, hb⟩
    have hXw : w.heap.size ≤ X := by have := HB.out.size; omega
    replace HB := Lib.hid (HB.out.trans (hb.mono HB.out.size))
    replace HO := Lib.hid (SgAt.of HO.out hb hX)
    have HS := Lib.hid hS
    clear hb hS
    have hX0 : 0 < X := by have := HEs.out.lt; omega
    have HT := Lib.hid (show St l 0 X g cap a1 c1 w w5 from ⟨HS.out, HO.out, HB.out, hXw, HSG.out, hl3⟩)
    have HE8 : Hid (∀ wy, Below w.heap.size w wy → Esc wy) := Lib.hid (fun wy hb => HEs.out.below HEs.out.lt hb)
    clear HS HB HO HRD HA HA2
    obtain ⟨R, hR⟩ : ∃ R, R = quotedV l K := ⟨_, rfl⟩
    have HR := Lib.hid hR
    clear hR
    go_wp2_with fail
    refine (back_st K _ HT.out hK2).mono ?_
    rintro e w8 ⟨rfl, ht⟩
    replace HT := Lib.hid ht
    clear ht
    go_wp2_with fail
    refine (quoted_any l K X g cap _ HT.out.1 (HE8.out _ HT.out.2.2.1) hX0 HSG.out (by omega)).mono ?_
    rw [← HR.out]
    intro e w9 hq9
    obtain ⟨o, j⟩ := R
    cases o with
    | none =>
      have hq9 : e = .returned (.tuple #[.string (tBytes []), .int .i64 j, .int .i64 1]) ∧ ScW l K X g cap w9 ∧ SK X w8 w9 := hq9
      have HRS : Hid (∀ n ∈ ([] : List Int), SignP n) := Lib.hid (by simp)
      obtain ⟨rfl, hs9, hk9⟩ := hq9
      have HT9 := Lib.hid (show St l K X g cap a1 c1 w w9 from ⟨hs9, HT.out.2.1.sk hk9, HT.out.2.2.1.trans (hk9.1.mono HT.out.2.2.2.1), HT.out.2.2.2⟩)
      clear hs9 hk9 HT
      go_wp2_with fail
      refine (rquoted_any l K X c1 a1 _ HT9.out.2.1.cls HSG.out (by omega) hK2).mono ?_
      rw [← HR.out]
      rintro e w10 ⟨a5, c5, rfl, ho5, hb5⟩
      have HC := Lib.hid (own_cls (X := X) (L := []) ho5 rfl HT9.out.1.lt)
      have HT10 := Lib.hid (HT9.out.below hb5)
      clear ho5 hb5 HT9
      go_wp2_with fail
      refine (text_any [] a5 _ c5 X _ HC.out HRS.out (by simp)).mono ?_
      rintro e w11 ⟨rfl, hb11⟩
      have HT11 := Lib.hid (HT10.out.below hb11)
      clear hb11 HT10 HC
      go_wp2_with fail
      refine (place_any l _ X g cap _ HT11.out.1).mono ?_
      rintro e w12 ⟨rfl, rfl⟩
      go_wp2_with fail
      go_ret
      exact ⟨rfl, HT11.out.2.2.1⟩
    | some r =>
      have hq9 : e = .returned (.tuple #[.string (tBytes r), .int .i64 j, .int .i64 0]) ∧ ScW l j X g cap w9 ∧ SK X w8 w9 := hq9
      have hrs := quotedV_sign HSG.out HR.out.symm
      have HRS := Lib.hid hrs.1
      have hrl := hrs.2
      clear hrs
      obtain ⟨rfl, hs9, hk9⟩ := hq9
      have HT9 := Lib.hid (show St l j X g cap a1 c1 w w9 from ⟨hs9, HT.out.2.1.sk hk9, HT.out.2.2.1.trans (hk9.1.mono HT.out.2.2.2.1), HT.out.2.2.2⟩)
      clear hs9 hk9 HT
      go_wp2_with fail
      refine (rquoted_any l K X c1 a1 _ HT9.out.2.1.cls HSG.out (by omega) hK2).mono ?_
      rw [← HR.out]
      rintro e w10 ⟨a5, c5, rfl, ho5, hb5⟩
      have HC := Lib.hid (own_cls (X := X) (L := r) ho5 rfl HT9.out.1.lt)
      have HT10 := Lib.hid (HT9.out.below hb5)
      clear ho5 hb5 HT9
      go_wp2_with fail
      refine (text_any r a5 _ c5 X _ HC.out HRS.out (by show r.length ≤ 1000000; omega)).mono ?_
      rintro e w11 ⟨rfl, hb11⟩
      have HT11 := Lib.hid (HT10.out.below hb11)
      clear hb11 HT10 HC
      go_wp2_with fail
      refine (place_any l _ X g cap _ HT11.out.1).mono ?_
      rintro e w12 ⟨rfl, rfl⟩
      go_wp2_with fail
      go_ret
      exact ⟨rfl, HT11.out.2.2.1⟩
  · have NW := Lib.hid (fun w => new_bad s l (x :: r) w hr (by simp) (by omega))
    have SG := Lib.hid (fun w => signs_any s l (x :: r) w hr (by omega))
    clear hr
    go_enter Tryd.func11, Tryd.ntmps11
    go_wp2_with fail
    refine HA.out.mono ?_
    rintro e w1 ⟨rfl, hb1⟩
    go_wp2_with fail
    refine (SG.out _).mono ?_
    rintro e w2 ⟨a1, c1, rfl, ho, hb2⟩
    have HB := Lib.hid (hb1.trans (hb2.mono hb1.size))
    clear hb1 hb2 ho
    go_wp2_with fail
    refine (NW.out _).mono ?_
    rintro e w5 ⟨rfl, hb⟩
    replace HB := Lib.hid (HB.out.trans (hb.mono HB.out.size))
    clear hb
    go_wp2_with fail
    go_ret
    exact ⟨rfl, HB.out⟩
end Go.Proofs.YteicjmippeobpaaDoor
