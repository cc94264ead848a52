/- The law ValueTruths answers true at every list: And and Or of any truths are the document's; each is the other one of the turned ones. No condition. -/
import Derived.Test.YtfpelhacbmggeaaTruthsPlain
import Derived.OpenShut
import Derived.Test.YtfpelhacbmggeaaOpen
namespace Go.Proofs.Ytfpelhacbmggeaa
open Go.RowKit
theorem infoT : (Try.prog.info? 25).map (fun i => (i.zero, i.size, i.bytes)) = some (some (.int .u8 0), 1, 1) := by kernel_rfl
theorem n0 : notV 0 = 1 := rfl
theorem n1 : notV 1 = 0 := rfl
theorem n2 : notV 2 = 2 := rfl
theorem take_snoc' (zs : List Int) (k : Nat) (h : k < zs.length) : zs.take (k + 1) = zs.take k ++ [zs[k]?.getD 0] := by
  rw [List.take_succ_eq_append_getElem h]; simp [h]
theorem map_take_snoc (zs : List Int) (k : Nat) (h : k < zs.length) : (zs.take (k + 1)).map (· % 4) = (zs.take k).map (· % 4) ++ [zs[k]?.getD 0 % 4] := by
  rw [take_snoc' zs k h]; simp
set_option maxHeartbeats 1600000 in
theorem truths_row (b off cap : Nat) (zs : List Int) (w : World) (hlen : zs.length ≤ 40) (hz : ∀ a ∈ zs, 0 ≤ a ∧ a ≤ 255)
    (hc : ∀ j, j < zs.length → w.cell? ⟨b, off + j, none⟩ = some (.int .u8 (zs[j]?.getD 0))) :
    Calls Try.prog 3 #[.slice (some ⟨b, off, none⟩) zs.length cap] w fun e w' => e = .returned (.bool true) ∧ Below w.heap.size w w' := by
  have HC := Lib.hid hc; clear hc
  have HZ := Lib.hid hz; clear hz
  obtain ⟨i0, hi, hz0, hz1, hz2⟩ := info_parts infoT
  go_enter Try.func3, Try.ntmps3
  go_wp2_with fail
  refine (awake_both _).mono ?_
  rintro e w1 ⟨rfl, _, hb⟩
  go_wp2_with fail
  go_loopw [3, 4, 5, 6, 7, 23] (fun va vt s n r i wr => ∃ (k : Nat) (bs bn bw : Bool), k ≤ zs.length ∧ i = .int .i64 k ∧ s = .bool bs ∧ n = .bool bn ∧ r = .bool bw ∧
      Hid (bs = anyT ((zs.take k).map (· % 4))) ∧ Hid (bn = anyF ((zs.take k).map (· % 4))) ∧ Hid (bw = anyW ((zs.take k).map (· % 4))) ∧
      Two wr w.heap.size 25 va vt ((zs.take k).map (· % 4)) (((zs.take k).map (· % 4)).map notV) ∧ Below w.heap.size w wr)
    (fun _ _ _ _ _ i _ => zs.length - (intOf i).toNat)
  case atStart => exact ⟨0, false, false, false, Nat.zero_le _, rfl, rfl, rfl, rfl, Lib.hid rfl, Lib.hid rfl, Lib.hid rfl, ⟨World.ownsRow_nil _ _ _ _, World.ownsRow_nil _ _ _ _, fun g h => by cases h⟩, hb⟩
  case round =>
    obtain ⟨k, bs, bn, bw, hk, rfl, rfl, rfl, rfl, hs, hn, hw, hst, hbel⟩ := hrel
    by_cases hlt : k < zs.length
    · have hcell : wr.cell? ⟨b, off + k, none⟩ = some (.int .u8 (zs[k]?.getD 0)) := (hbel.cell (block_lt_of_cell (HC.out k hlt))).trans (HC.out k hlt)
      have hsz := hbel.size
      have hm := map_take_snoc zs k hlt
      have hmem : zs[k]?.getD 0 ∈ zs := by simp [hlt]
      obtain ⟨x0, x1⟩ := HZ.out _ hmem
      clear hmem
      obtain ⟨x, hx⟩ : ∃ x, x = zs[k]?.getD 0 := ⟨_, rfl⟩
      rw [← hx] at hcell x0 x1 hm
      clear hx
      obtain ⟨T, hT⟩ : ∃ T, T = (zs.take k).map (· % 4) := ⟨_, rfl⟩
      rw [← hT] at hs hn hw hst hm
      have hTl : T.length ≤ 40 := by rw [hT]; simp; omega
      clear hT
      have HM := Lib.hid hm; clear hm
      have HT := Lib.hid hst; clear hst
      go_wp2_with (at_builtin; refine wpList_append_own_at _ rfl (.tmp 29) (.tmp 31) 24 rfl w.heap.size 25 i0 (.int .u8 0) 1 1 Try.underlying24 hi hz0 hz1 hz2 rfl (by decide) _ _ _ rfl (HT.out.1.alloc _) ⟨wr.heap.size, 0, none⟩ 1 1 [.int .u8 (x % 4)] rfl rfl (cell_one_new _ _ _) (by simp [Value.oneCell']) (by unfold maxLen; omega) (by omega) (by simp; omega) ?_; intro va' w2 oa ga _ ha)
      have T1 := Lib.hid (two_left HT.out _ rfl (x % 4) oa ga ha)
      have hb2 := (hbel.alloc hsz _).grown ga (by simp; omega) (fun g hg => ((HT.out.1).lt g hg).1)
      have hsz2 := hb2.size
      clear oa ga ha
      by_cases h2 : x % 4 < 2
      · have hnn : notV (notV (x % 4)) = x % 4 := notV_of _ (by omega) h2
        go_wp2_with (first
          | (go_at_call 12; refine (not_any _ _).mono ?_; rintro e w' ⟨rfl, rfl⟩)
          | (at_builtin; refine wpList_append_own_at _ rfl (.tmp 33) (.tmp 36) 24 rfl w.heap.size 25 i0 (.int .u8 0) 1 1 Try.underlying24 hi hz0 hz1 hz2 rfl (by decide) _ _ _ rfl (T1.out.2.1.alloc _) ⟨w2.heap.size, 0, none⟩ 1 1 [.int .u8 (notV (x % 4))] rfl rfl (cell_one_new _ _ _) (by simp [Value.oneCell']) (by unfold maxLen; simp; omega) (by simp; omega) (by simp; omega) ?_; intro vt' w3 oa ga _ ha))
        all_goals
          have T2 := two_swap (two_left (two_swap T1.out) _ rfl (notV (x % 4)) oa ga ha)
          have hb3 := (hb2.alloc hsz2 _).grown ga (by simp; omega) (fun g hg => ((T1.out.2.1).lt g hg).1)
          go_roundw
          case rel => exact ⟨k + 1, _, _, _, by omega, by go_num, rfl, rfl, rfl, Lib.hid (by rw [HM.out, anyT_snoc, ← hs.out]; simp [*]), Lib.hid (by rw [HM.out, anyF_snoc, ← hn.out]; simp [*]), Lib.hid (by rw [HM.out, anyW_snoc, ← hw.out]; simp [*]), by rw [HM.out, List.map_append]; exact T2, hb3⟩
          case measure => simp [intOf]; omega
      · have hnn : (notV (x % 4) != 2) = false := by rw [notV_wrong _ (by omega)]; rfl
        go_wp2_with (first
          | (go_at_call 12; refine (not_any _ _).mono ?_; rintro e w' ⟨rfl, rfl⟩)
          | (at_builtin; refine wpList_append_own_at _ rfl (.tmp 33) (.tmp 36) 24 rfl w.heap.size 25 i0 (.int .u8 0) 1 1 Try.underlying24 hi hz0 hz1 hz2 rfl (by decide) _ _ _ rfl (T1.out.2.1.alloc _) ⟨w2.heap.size, 0, none⟩ 1 1 [.int .u8 (notV (x % 4))] rfl rfl (cell_one_new _ _ _) (by simp [Value.oneCell']) (by unfold maxLen; simp; omega) (by simp; omega) (by simp; omega) ?_; intro vt' w3 oa ga _ ha))
        all_goals
          have T2 := two_swap (two_left (two_swap T1.out) _ rfl (notV (x % 4)) oa ga ha)
          have hb3 := (hb2.alloc hsz2 _).grown ga (by simp; omega) (fun g hg => ((T1.out.2.1).lt g hg).1)
          go_roundw
          case rel => exact ⟨k + 1, _, _, _, by omega, by go_num, rfl, rfl, rfl, Lib.hid (by rw [HM.out, anyT_snoc, ← hs.out]; simp [*]), Lib.hid (by rw [HM.out, anyF_snoc, ← hn.out]; simp [*]), Lib.hid (by rw [HM.out, anyW_snoc, ← hw.out]; simp [*]), by rw [HM.out, List.map_append]; exact T2, hb3⟩
          case measure => simp [intOf]; omega
    · have hkk : k = zs.length := by omega
      subst hkk
      obtain ⟨T, hT⟩ : ∃ T, T = (zs.take zs.length).map (· % 4) := ⟨_, rfl⟩
      rw [← hT] at hs hn hw hst
      have hF : Fours T := by rw [hT, List.take_length]; exact fours_mod zs (fun a ha => (HZ.out a ha).1)
      have hTl : T.length ≤ 40 := by rw [hT]; simp; omega
      clear hT
      have a1 := andV_eq T hF
      have a2 := orV_eq T hF
      have a3 := turned T hF
      rw [← hn.out, ← hw.out] at a1
      rw [← hs.out, ← hw.out] at a2
      have hml : (T.map notV).length ≤ 9223372036854775807 := by simp; omega
      have HO := Lib.hid hst
      clear hs hn hw hst hF
      rw [a1] at a3
      have A1 := Lib.hid (show eitherV 0 1 T 1 = _ from a1)
      have A2 := Lib.hid (show eitherV 1 0 T 0 = _ from a2)
      have A3 := Lib.hid (show eitherV 1 0 (T.map notV) 0 = _ from a3.symm)
      clear a1 a2 a3
      cases bs <;> cases bn <;> cases bw
      all_goals
        have B1 := A1.out; have B2 := A2.out; have B3 := A3.out
        simp [notV] at B1 B2 B3
        have C1 := Lib.hid B1; have C2 := Lib.hid B2; have C3 := Lib.hid B3
        clear A1 A2 A3 B1 B2 B3
        go_wp2_with fail
        refine (and_own u3 T wr w.heap.size 25 (by omega) HO.out.1).mono ?_
        rintro e w' ⟨rfl, rfl⟩
        rw [C1.out]
        go_wp2_with fail
        refine (or_own u3 T wr w.heap.size 25 (by omega) HO.out.1).mono ?_
        rintro e w' ⟨rfl, rfl⟩
        rw [C2.out]
        go_wp2_with fail
        refine (and_own u3 T wr w.heap.size 25 (by omega) HO.out.1).mono ?_
        rintro e w' ⟨rfl, rfl⟩
        rw [C1.out]
        go_wp2_with fail
        refine (not_any _ _).mono ?_
        rintro e w' ⟨rfl, rfl⟩
        simp only [n0, n1, n2]
        go_wp2_with fail
        refine (or_own u4 (T.map notV) wr w.heap.size 25 hml HO.out.2.1).mono ?_
        rintro e w' ⟨rfl, rfl⟩
        rw [C3.out]
        go_wp2
        go_ret
        exact ⟨rfl, hbel⟩
theorem truths_nil (a : Option Addr) (cap : Nat) (w : World) : Calls Try.prog 3 #[.slice a 0 cap] w fun e w' => e = .returned (.bool true) ∧ Below w.heap.size w w' := by
  go_enter Try.func3, Try.ntmps3
  go_wp2_with fail
  refine (awake_both _).mono ?_
  rintro e w1 ⟨rfl, _, hb⟩
  go_wp2_with fail
  refine wp_loop_rounds 1 ?_
  rw [rounds_succ]
  go_wp2_with (first
    | (go_at_call 13; refine (and_nil _).mono ?_; rintro e w' ⟨rfl, rfl⟩)
    | (go_at_call 14; refine (or_nil _).mono ?_; rintro e w' ⟨rfl, rfl⟩)
    | go_in)
  go_ret
  exact ⟨rfl, hb⟩
theorem truths_long (a : Option Addr) (len cap : Nat) (w : World) (hlen : 40 < len) (hl2 : len ≤ 9223372036854775807) :
    Calls Try.prog 3 #[.slice a len cap] w fun e w' => e = .returned (.bool true) ∧ Below w.heap.size w w' := by
  go_enter Try.func3, Try.ntmps3
  go_wp2_with fail
  refine (awake_both _).mono ?_
  rintro e w1 ⟨rfl, _, hb⟩
  go_wp2_with fail
  refine (awake_both _).mono ?_
  rintro e w2 ⟨rfl, _, hb2⟩
  go_wp2_with fail
  go_ret
  exact ⟨rfl, hb.trans (hb2.mono hb.size)⟩
/-- every row: nil, short, long -/
theorem truths_walk (a : Option Addr) (len cap : Nat) (z : List Int) (w : World) (h : RowAt .u8 w a len cap z) :
    Calls Try.prog 3 #[.slice a len cap] w fun e w' => e = .returned (.bool true) ∧ Below w.heap.size w w' := by
  rcases h with ⟨rfl, rfl, rfl, rfl⟩ | ⟨x, rfl, h1, h2, h3, h4, h5⟩
  · exact truths_nil _ _ w
  · by_cases hl : len ≤ 40
    · by_cases h0 : len = 0
      · subst h0
        exact truths_nil _ _ w
      · obtain ⟨b, off, rfl, hc⟩ := ints_at h4 (by omega)
        have e : len = (z.take len).length := by simp; omega
        rw [e]
        refine truths_row b off cap (z.take len) w (by omega) ?_ ?_
        · intro a ha
          exact bounds_u8 (h5 a (List.mem_of_mem_take ha))
        · intro j hj
          have hj' : j < len := by omega
          rw [hc j (by omega), List.getElem?_take_of_lt hj']
          simp
    · exact truths_long _ len cap w (by omega) (by unfold maxLen at h2; omega)
end Go.Proofs.Ytfpelhacbmggeaa
