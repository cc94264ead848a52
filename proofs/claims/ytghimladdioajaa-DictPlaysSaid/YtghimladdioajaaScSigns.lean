/- Contracts of the document's Sign, Bytes, first over this seat's program. Every number; every bytes. -/
import Derived.Test.YtghimladdioajaaRows
import Derived.Test.YtghimladdioajaaScFirst
import Derived.Test.YtghimladdioajaaMem
import Derived.WalkKit
import Derived.ProofKit
import Derived.OpenShut
import Derived.Lib.Hide
import Derived.IntWalk
import Derived.Maps.AppendAt
import Derived.Laws.Rows
import Derived.Deep.LoopGhost
namespace Go.Proofs.Ytghimladdioajaa
open Go Go.RowKit
theorem int_eq {k : IntKind} {a b : Int} (h : a = b) : Value.int k a = .int k b := by rw [h]
theorem ret_one {v u : Value} (h : v = u) : Ending.returned v = .returned u := by rw [h]
theorem ret_two {v1 v2 u1 u2 : Value} (h1 : v1 = u1) (h2 : v2 = u2) : Ending.returned (.tuple #[v1, v2]) = .returned (.tuple #[u1, u2]) := by rw [h1, h2]
theorem ret_bool {a b : Bool} (h : a = b) : Ending.returned (.bool a) = .returned (.bool b) := by rw [h]
theorem ret_int {k : IntKind} {a b : Int} (h : a = b) : Ending.returned (.int k a) = .returned (.int k b) := by rw [h]
theorem sign_yes (n : Int) (w : World) (h : SignP n) : Calls Try.prog 57 #[.int .i64 n] w fun e w' => e = .returned (.bool true) ∧ w = w' := by
  rcases h with ⟨h0, h1⟩ | ⟨h0, h1⟩
  · have h2 : n ≤ 1114111 := by omega
    go_enter Try.func57, Try.ntmps57
    go_wp2
    go_ret
    exact ⟨rfl, rfl⟩
  · have h2 : 0 ≤ n := by omega
    have h3 : 55296 ≤ n := by omega
    go_enter Try.func57, Try.ntmps57
    go_wp2
    go_ret
    exact ⟨rfl, rfl⟩
theorem sign_no (n : Int) (w : World) (h : ¬ SignP n) : Calls Try.prog 57 #[.int .i64 n] w fun e w' => e = .returned (.bool false) ∧ w = w' := by
  have hc : n < 0 ∨ 1114111 < n ∨ (55296 ≤ n ∧ n ≤ 57343) := by unfold SignP at h; omega
  clear h
  rcases hc with h0 | h0 | ⟨h0, h1⟩
  · go_enter Try.func57, Try.ntmps57
    go_wp2
    go_ret
    exact ⟨rfl, rfl⟩
  · have h2 : 0 ≤ n := by omega
    go_enter Try.func57, Try.ntmps57
    go_wp2
    go_ret
    exact ⟨rfl, rfl⟩
  · have h2 : 0 ≤ n := by omega
    have h3 : n ≤ 1114111 := by omega
    go_enter Try.func57, Try.ntmps57
    go_wp2
    go_ret
    exact ⟨ret_bool (by simp; omega), rfl⟩
/-- what Bytes makes: a row of the sign's bytes -/
theorem bytes_any (n : Int) (w : World) (h : SignP n) : Calls Try.prog 58 #[.int .i64 n] w fun e w' =>
    e = .returned (.slice (some ⟨w.heap.size, 0, none⟩) (enc n).length (enc n).length) ∧ w' = w.alloc (.cells (Lib.runeCells n).toArray 5) := by
  obtain ⟨k, hk⟩ := wide_of h
  rw [enc_len hk]
  unfold Lib.runeCells
  cases hk with
  | one a b =>
    rw [Lib.encodeRuneZ_one a b]
    go_enter Try.func58, Try.ntmps58
    go_wp2
    go_ret
    exact ⟨rfl, rfl⟩
  | two a b =>
    rw [Lib.encodeRuneZ_two a b]
    go_enter Try.func58, Try.ntmps58
    go_wp2
    go_ret
    exact ⟨rfl, rfl⟩
  | three a =>
    have a1 : 2048 ≤ n := by omega
    have a2 : n ≤ 65535 := by omega
    rw [Lib.encodeRuneZ_three a]
    clear a h
    go_enter Try.func58, Try.ntmps58
    go_wp2
    go_ret
    exact ⟨rfl, rfl⟩
  | four a b =>
    rw [Lib.encodeRuneZ_four a b]
    go_enter Try.func58, Try.ntmps58
    go_wp2
    go_ret
    exact ⟨rfl, rfl⟩
theorem byteV_get (s : ByteArray) (k : Nat) (h : k < s.size) : byteV s.data.toList k = ((s[k]'h).toNat : Int) := by
  unfold byteV bz
  rw [List.getD_eq_getElem?_getD, List.getElem?_eq_getElem (by simpa using h)]
  rfl
set_option linter.unusedVariables false
/-- what first comes to -/
def FirstRes (r : List UInt8) (w : World) (e : Ending) (w' : World) : Prop :=
  ((∃ n, SignP n ∧ enc n <+: r ∧ e = .returned (.tuple #[.int .i64 n, .int .i64 (enc n).length])) ∨ (NoSign r ∧ e = .returned (.tuple #[.int .i64 (-1), .int .i64 0]))) ∧ Below w.heap.size w w'
theorem first_none {r : List UInt8} {w w' : World} (h : NoSign r) (hb : Below w.heap.size w w') : FirstRes r w (.returned (.tuple #[.int .i64 (-1), .int .i64 0])) w' := ⟨.inr ⟨h, rfl⟩, hb⟩
theorem first_some {r : List UInt8} {w w' : World} {n m : Int} (hn : SignP n) (h : enc n <+: r) (hm : m = (enc n).length) (hb : Below w.heap.size w w') : FirstRes r w (.returned (.tuple #[.int .i64 n, .int .i64 m])) w' := ⟨.inl ⟨n, hn, h, by rw [hm]⟩, hb⟩
set_option maxRecDepth 100000 in
set_option maxHeartbeats 3200000 in
theorem first_c1 (s : ByteArray) (w : World) (h0 : 0 < s.size) (hs : s.size ≤ 9223372036854775807) (hi : ((s[0]'h0).toNat : Int) < 128) : Calls Try.prog 55 #[.string s] w (FirstRes s.data.toList w) := by
  have hne : s.data.toList ≠ [] := by intro h; have : s.size = 0 := by show s.data.size = 0; rw [← Array.length_toList, h]; rfl
                                      omega
  have hlen : s.data.toList.length = s.size := rfl
  have e0 := byteV_get s 0 h0
  have hb0 := byteV_lt s.data.toList 0
  rw [e0] at hb0
  have H0 := Lib.hid e0
  have HY := Lib.hid (yes_one hne (by rw [e0]; exact hi))
  clear hlen e0 hne
  go_enter Try.func55, Try.ntmps55
  go_wp2_with fail
  go_ret2
  obtain ⟨y1, y2, y3⟩ := HY.out
  rw [H0.out] at y1 y2 y3
  exact first_some y1 y2 (by rw [y3]; rfl) (Below.refl _ _)
set_option maxRecDepth 100000 in
set_option maxHeartbeats 3200000 in
theorem first_c0 (s : ByteArray) (w : World) (h0 : 0 < s.size) (hs : s.size ≤ 9223372036854775807) (lo : 128 ≤ ((s[0]'h0).toNat : Int)) (hi : ((s[0]'h0).toNat : Int) < 192) : Calls Try.prog 55 #[.string s] w (FirstRes s.data.toList w) := by
  have hne : s.data.toList ≠ [] := by intro h; have : s.size = 0 := by show s.data.size = 0; rw [← Array.length_toList, h]; rfl
                                      omega
  have hlen : s.data.toList.length = s.size := rfl
  have e0 := byteV_get s 0 h0
  have hb0 := byteV_lt s.data.toList 0
  rw [e0] at hb0
  have HN := Lib.hid (no_many (r := s.data.toList) (by rw [e0]; unfold manyB; rw [if_neg (by omega), if_neg (by omega), if_neg (by omega), if_neg (by omega)]))
  clear hlen e0 hne
  go_enter Try.func55, Try.ntmps55
  go_wp2_with fail
  go_ret2
  exact first_none HN.out (Below.refl _ _)
set_option maxRecDepth 100000 in
set_option maxHeartbeats 3200000 in
theorem first_c2 (s : ByteArray) (w : World) (h0 : 0 < s.size) (hs : s.size ≤ 9223372036854775807) (lo : 192 ≤ ((s[0]'h0).toNat : Int)) (hi : ((s[0]'h0).toNat : Int) < 224) : Calls Try.prog 55 #[.string s] w (FirstRes s.data.toList w) := by
  have hne : s.data.toList ≠ [] := by intro h; have : s.size = 0 := by show s.data.size = 0; rw [← Array.length_toList, h]; rfl
                                      omega
  have hlen : s.data.toList.length = s.size := rfl
  have e0 := byteV_get s 0 h0
  have hb0 := byteV_lt s.data.toList 0
  rw [e0] at hb0
  have hm : manyB (byteV s.data.toList 0) = 2 := by rw [e0]; unfold manyB; rw [if_neg (by omega), if_pos (by omega)]
  have hac : accB s.data.toList 0 = ((s[0]'h0).toNat : Int) - 192 := by rw [acc0, e0]; unfold baseB; rw [if_neg (by omega), if_pos (by omega)]
  by_cases hl : s.size < 2
  · have HN := Lib.hid (no_short (r := s.data.toList) (by rw [hm, hlen]; exact hl))
    have hl' : (s.size : Int) < 2 := by omega
    clear hm hac hlen e0 hne
    go_enter Try.func55, Try.ntmps55
    go_wp2_with fail
    go_ret2
    exact first_none HN.out (Below.refl _ _)
  · have HM := Lib.hid hm
    have HA := Lib.hid hac
    have hl' : 2 ≤ s.size := by omega
    clear hm hac hlen e0 hne hl
    go_enter Try.func55, Try.ntmps55
    go_wp2_with fail
    go_loop [4, 7] (fun n i => ∃ k : Nat, 1 ≤ k ∧ k ≤ 2 ∧ Hid (∀ j, 1 ≤ j → j < k → contB s.data.toList j) ∧ i = .int .i64 k ∧ n = .int .i64 (accB s.data.toList (k - 1))) (fun _ i => 2 - (intOf i).toNat)
    case atStart => exact ⟨1, by omega, by omega, Lib.hid (fun j h1 h2 => by omega), rfl, by rw [Nat.sub_self, HA.out]⟩
    case round =>
      obtain ⟨k, k1, k2, hcont, rfl, rfl⟩ := hrel
      obtain ⟨a1, a2⟩ := acc_part HM.out (by omega) k1 k2 hcont.out
      by_cases hlt : k < 2
      · have hks : k < s.size := by omega
        have HB := Lib.hid (byteV_get s k hks)
        have hbk := byteV_lt s.data.toList k
        rw [HB.out] at hbk
        have hnx : Hid (accB s.data.toList (k + 1 - 1) = accB s.data.toList (k - 1) * 64 + ((s[k]'hks).toNat : Int) - 128) := by
          obtain ⟨m, rfl⟩ : ∃ m, k = m + 1 := ⟨k - 1, by omega⟩
          rw [← HB.out]; exact Lib.hid rfl
        by_cases hd : 128 ≤ ((s[k]'hks).toNat : Int) ∧ ((s[k]'hks).toNat : Int) ≤ 191
        · obtain ⟨d1, d2⟩ := hd
          have hcont' : Hid (∀ j, 1 ≤ j → j < k + 1 → contB s.data.toList j) := Lib.hid (fun j j1 j2 => by
            by_cases hj : j < k
            · exact hcont.out j j1 hj
            · obtain rfl : j = k := by omega
              unfold contB; rw [HB.out]; exact ⟨d1, d2⟩)
          clear hcont
          generalize accB s.data.toList (k - 1) = N at a1 a2 hnx ⊢
          go_wp2_with fail
          go_round
          case rel => exact ⟨k + 1, by omega, by omega, hcont', by go_num, by rw [hnx.out]⟩
          case measure => simp [intOf]; omega
        · have HN := Lib.hid (no_cont (r := s.data.toList) (j := k) k1 (by rw [HM.out]; exact hlt) (by unfold contB; rw [HB.out]; exact hd))
          clear hnx hcont
          rcases (by omega : ((s[k]'hks).toNat : Int) < 128 ∨ 191 < ((s[k]'hks).toNat : Int)) with hd1 | hd1
          all_goals
            clear hd
            go_wp2_with fail
            go_ret2
            exact first_none HN.out (Below.refl _ _)
      · obtain rfl : k = 2 := by omega
        clear k1 k2 hlt
        by_cases hs1 : SignP (accB s.data.toList (2 - 1))
        · by_cases hs2 : (enc (accB s.data.toList (2 - 1))).length = 2
          · have HY := Lib.hid (yes_many HM.out (by omega) hl' hcont.out hs1 hs2)
            have hs3 : (((enc (accB s.data.toList (2 - 1))).length : Int) != 2) = false := by simp [hs2]
            have HS1 := Lib.hid hs1
            have HS2 := Lib.hid hs2
            clear hs1 hs2 hcont
            generalize accB s.data.toList (2 - 1) = N at a1 a2 HY hs3 HS1 HS2 ⊢
            go_wp2_with (first | (go_at_call 57; refine (sign_yes N _ HS1.out).mono ?_; rintro e w' ⟨rfl, rfl⟩) | (go_at_call 58; refine (bytes_any N _ HS1.out).mono ?_; rintro e w' ⟨rfl, rfl⟩))
            go_ret2
            exact first_some HS1.out HY.out (by rw [HS2.out]; rfl) ((Below.refl _ _).alloc (Nat.le_refl _) _)
          · have HN := Lib.hid (no_len HM.out hs2)
            have hs3 : (((enc (accB s.data.toList (2 - 1))).length : Int) != 2) = true := bne_iff_ne.mpr (by omega)
            have HS1 := Lib.hid hs1
            clear hs1 hs2 hcont
            generalize accB s.data.toList (2 - 1) = N at a1 a2 hs3 HS1 ⊢
            go_wp2_with (first | (go_at_call 57; refine (sign_yes N _ HS1.out).mono ?_; rintro e w' ⟨rfl, rfl⟩) | (go_at_call 58; refine (bytes_any N _ HS1.out).mono ?_; rintro e w' ⟨rfl, rfl⟩))
            go_ret2
            exact first_none HN.out ((Below.refl _ _).alloc (Nat.le_refl _) _)
        · have HN := Lib.hid (no_sign HM.out hs1)
          have HS1 := Lib.hid hs1
          clear hs1 hcont
          generalize accB s.data.toList (2 - 1) = N at a1 a2 HS1 ⊢
          go_wp2_with (go_at_call 57; refine (sign_no N _ HS1.out).mono ?_; rintro e w' ⟨rfl, rfl⟩)
          go_ret2
          exact first_none HN.out (Below.refl _ _)
set_option maxRecDepth 100000 in
set_option maxHeartbeats 3200000 in
theorem first_c3 (s : ByteArray) (w : World) (h0 : 0 < s.size) (hs : s.size ≤ 9223372036854775807) (lo : 224 ≤ ((s[0]'h0).toNat : Int)) (hi : ((s[0]'h0).toNat : Int) < 240) : Calls Try.prog 55 #[.string s] w (FirstRes s.data.toList w) := by
  have hne : s.data.toList ≠ [] := by intro h; have : s.size = 0 := by show s.data.size = 0; rw [← Array.length_toList, h]; rfl
                                      omega
  have hlen : s.data.toList.length = s.size := rfl
  have e0 := byteV_get s 0 h0
  have hb0 := byteV_lt s.data.toList 0
  rw [e0] at hb0
  have hm : manyB (byteV s.data.toList 0) = 3 := by rw [e0]; unfold manyB; rw [if_neg (by omega), if_neg (by omega), if_pos (by omega)]
  have hac : accB s.data.toList 0 = ((s[0]'h0).toNat : Int) - 224 := by rw [acc0, e0]; unfold baseB; rw [if_neg (by omega), if_neg (by omega), if_pos (by omega)]
  by_cases hl : s.size < 3
  · have HN := Lib.hid (no_short (r := s.data.toList) (by rw [hm, hlen]; exact hl))
    have hl' : (s.size : Int) < 3 := by omega
    clear hm hac hlen e0 hne
    go_enter Try.func55, Try.ntmps55
    go_wp2_with fail
    go_ret2
    exact first_none HN.out (Below.refl _ _)
  · have HM := Lib.hid hm
    have HA := Lib.hid hac
    have hl' : 3 ≤ s.size := by omega
    clear hm hac hlen e0 hne hl
    go_enter Try.func55, Try.ntmps55
    go_wp2_with fail
    go_loop [4, 7] (fun n i => ∃ k : Nat, 1 ≤ k ∧ k ≤ 3 ∧ Hid (∀ j, 1 ≤ j → j < k → contB s.data.toList j) ∧ i = .int .i64 k ∧ n = .int .i64 (accB s.data.toList (k - 1))) (fun _ i => 3 - (intOf i).toNat)
    case atStart => exact ⟨1, by omega, by omega, Lib.hid (fun j h1 h2 => by omega), rfl, by rw [Nat.sub_self, HA.out]⟩
    case round =>
      obtain ⟨k, k1, k2, hcont, rfl, rfl⟩ := hrel
      obtain ⟨a1, a2⟩ := acc_part HM.out (by omega) k1 k2 hcont.out
      by_cases hlt : k < 3
      · have hks : k < s.size := by omega
        have HB := Lib.hid (byteV_get s k hks)
        have hbk := byteV_lt s.data.toList k
        rw [HB.out] at hbk
        have hnx : Hid (accB s.data.toList (k + 1 - 1) = accB s.data.toList (k - 1) * 64 + ((s[k]'hks).toNat : Int) - 128) := by
          obtain ⟨m, rfl⟩ : ∃ m, k = m + 1 := ⟨k - 1, by omega⟩
          rw [← HB.out]; exact Lib.hid rfl
        by_cases hd : 128 ≤ ((s[k]'hks).toNat : Int) ∧ ((s[k]'hks).toNat : Int) ≤ 191
        · obtain ⟨d1, d2⟩ := hd
          have hcont' : Hid (∀ j, 1 ≤ j → j < k + 1 → contB s.data.toList j) := Lib.hid (fun j j1 j2 => by
            by_cases hj : j < k
            · exact hcont.out j j1 hj
            · obtain rfl : j = k := by omega
              unfold contB; rw [HB.out]; exact ⟨d1, d2⟩)
          clear hcont
          generalize accB s.data.toList (k - 1) = N at a1 a2 hnx ⊢
          go_wp2_with fail
          go_round
          case rel => exact ⟨k + 1, by omega, by omega, hcont', by go_num, by rw [hnx.out]⟩
          case measure => simp [intOf]; omega
        · have HN := Lib.hid (no_cont (r := s.data.toList) (j := k) k1 (by rw [HM.out]; exact hlt) (by unfold contB; rw [HB.out]; exact hd))
          clear hnx hcont
          rcases (by omega : ((s[k]'hks).toNat : Int) < 128 ∨ 191 < ((s[k]'hks).toNat : Int)) with hd1 | hd1
          all_goals
            clear hd
            go_wp2_with fail
            go_ret2
            exact first_none HN.out (Below.refl _ _)
      · obtain rfl : k = 3 := by omega
        clear k1 k2 hlt
        by_cases hs1 : SignP (accB s.data.toList (3 - 1))
        · by_cases hs2 : (enc (accB s.data.toList (3 - 1))).length = 3
          · have HY := Lib.hid (yes_many HM.out (by omega) hl' hcont.out hs1 hs2)
            have hs3 : (((enc (accB s.data.toList (3 - 1))).length : Int) != 3) = false := by simp [hs2]
            have HS1 := Lib.hid hs1
            have HS2 := Lib.hid hs2
            clear hs1 hs2 hcont
            generalize accB s.data.toList (3 - 1) = N at a1 a2 HY hs3 HS1 HS2 ⊢
            go_wp2_with (first | (go_at_call 57; refine (sign_yes N _ HS1.out).mono ?_; rintro e w' ⟨rfl, rfl⟩) | (go_at_call 58; refine (bytes_any N _ HS1.out).mono ?_; rintro e w' ⟨rfl, rfl⟩))
            go_ret2
            exact first_some HS1.out HY.out (by rw [HS2.out]; rfl) ((Below.refl _ _).alloc (Nat.le_refl _) _)
          · have HN := Lib.hid (no_len HM.out hs2)
            have hs3 : (((enc (accB s.data.toList (3 - 1))).length : Int) != 3) = true := bne_iff_ne.mpr (by omega)
            have HS1 := Lib.hid hs1
            clear hs1 hs2 hcont
            generalize accB s.data.toList (3 - 1) = N at a1 a2 hs3 HS1 ⊢
            go_wp2_with (first | (go_at_call 57; refine (sign_yes N _ HS1.out).mono ?_; rintro e w' ⟨rfl, rfl⟩) | (go_at_call 58; refine (bytes_any N _ HS1.out).mono ?_; rintro e w' ⟨rfl, rfl⟩))
            go_ret2
            exact first_none HN.out ((Below.refl _ _).alloc (Nat.le_refl _) _)
        · have HN := Lib.hid (no_sign HM.out hs1)
          have HS1 := Lib.hid hs1
          clear hs1 hcont
          generalize accB s.data.toList (3 - 1) = N at a1 a2 HS1 ⊢
          go_wp2_with (go_at_call 57; refine (sign_no N _ HS1.out).mono ?_; rintro e w' ⟨rfl, rfl⟩)
          go_ret2
          exact first_none HN.out (Below.refl _ _)
set_option maxRecDepth 100000 in
set_option maxHeartbeats 3200000 in
theorem first_c4 (s : ByteArray) (w : World) (h0 : 0 < s.size) (hs : s.size ≤ 9223372036854775807) (lo : 240 ≤ ((s[0]'h0).toNat : Int)) (hi : ((s[0]'h0).toNat : Int) < 248) : Calls Try.prog 55 #[.string s] w (FirstRes s.data.toList w) := by
  have hne : s.data.toList ≠ [] := by intro h; have : s.size = 0 := by show s.data.size = 0; rw [← Array.length_toList, h]; rfl
                                      omega
  have hlen : s.data.toList.length = s.size := rfl
  have e0 := byteV_get s 0 h0
  have hb0 := byteV_lt s.data.toList 0
  rw [e0] at hb0
  have hm : manyB (byteV s.data.toList 0) = 4 := by rw [e0]; unfold manyB; rw [if_neg (by omega), if_neg (by omega), if_neg (by omega), if_pos (by omega)]
  have hac : accB s.data.toList 0 = ((s[0]'h0).toNat : Int) - 240 := by rw [acc0, e0]; unfold baseB; rw [if_neg (by omega), if_neg (by omega), if_neg (by omega)]
  by_cases hl : s.size < 4
  · have HN := Lib.hid (no_short (r := s.data.toList) (by rw [hm, hlen]; exact hl))
    have hl' : (s.size : Int) < 4 := by omega
    clear hm hac hlen e0 hne
    go_enter Try.func55, Try.ntmps55
    go_wp2_with fail
    go_ret2
    exact first_none HN.out (Below.refl _ _)
  · have HM := Lib.hid hm
    have HA := Lib.hid hac
    have hl' : 4 ≤ s.size := by omega
    clear hm hac hlen e0 hne hl
    go_enter Try.func55, Try.ntmps55
    go_wp2_with fail
    go_loop [4, 7] (fun n i => ∃ k : Nat, 1 ≤ k ∧ k ≤ 4 ∧ Hid (∀ j, 1 ≤ j → j < k → contB s.data.toList j) ∧ i = .int .i64 k ∧ n = .int .i64 (accB s.data.toList (k - 1))) (fun _ i => 4 - (intOf i).toNat)
    case atStart => exact ⟨1, by omega, by omega, Lib.hid (fun j h1 h2 => by omega), rfl, by rw [Nat.sub_self, HA.out]⟩
    case round =>
      obtain ⟨k, k1, k2, hcont, rfl, rfl⟩ := hrel
      obtain ⟨a1, a2⟩ := acc_part HM.out (by omega) k1 k2 hcont.out
      by_cases hlt : k < 4
      · have hks : k < s.size := by omega
        have HB := Lib.hid (byteV_get s k hks)
        have hbk := byteV_lt s.data.toList k
        rw [HB.out] at hbk
        have hnx : Hid (accB s.data.toList (k + 1 - 1) = accB s.data.toList (k - 1) * 64 + ((s[k]'hks).toNat : Int) - 128) := by
          obtain ⟨m, rfl⟩ : ∃ m, k = m + 1 := ⟨k - 1, by omega⟩
          rw [← HB.out]; exact Lib.hid rfl
        by_cases hd : 128 ≤ ((s[k]'hks).toNat : Int) ∧ ((s[k]'hks).toNat : Int) ≤ 191
        · obtain ⟨d1, d2⟩ := hd
          have hcont' : Hid (∀ j, 1 ≤ j → j < k + 1 → contB s.data.toList j) := Lib.hid (fun j j1 j2 => by
            by_cases hj : j < k
            · exact hcont.out j j1 hj
            · obtain rfl : j = k := by omega
              unfold contB; rw [HB.out]; exact ⟨d1, d2⟩)
          clear hcont
          generalize accB s.data.toList (k - 1) = N at a1 a2 hnx ⊢
          go_wp2_with fail
          go_round
          case rel => exact ⟨k + 1, by omega, by omega, hcont', by go_num, by rw [hnx.out]⟩
          case measure => simp [intOf]; omega
        · have HN := Lib.hid (no_cont (r := s.data.toList) (j := k) k1 (by rw [HM.out]; exact hlt) (by unfold contB; rw [HB.out]; exact hd))
          clear hnx hcont
          rcases (by omega : ((s[k]'hks).toNat : Int) < 128 ∨ 191 < ((s[k]'hks).toNat : Int)) with hd1 | hd1
          all_goals
            clear hd
            go_wp2_with fail
            go_ret2
            exact first_none HN.out (Below.refl _ _)
      · obtain rfl : k = 4 := by omega
        clear k1 k2 hlt
        by_cases hs1 : SignP (accB s.data.toList (4 - 1))
        · by_cases hs2 : (enc (accB s.data.toList (4 - 1))).length = 4
          · have HY := Lib.hid (yes_many HM.out (by omega) hl' hcont.out hs1 hs2)
            have hs3 : (((enc (accB s.data.toList (4 - 1))).length : Int) != 4) = false := by simp [hs2]
            have HS1 := Lib.hid hs1
            have HS2 := Lib.hid hs2
            clear hs1 hs2 hcont
            generalize accB s.data.toList (4 - 1) = N at a1 a2 HY hs3 HS1 HS2 ⊢
            go_wp2_with (first | (go_at_call 57; refine (sign_yes N _ HS1.out).mono ?_; rintro e w' ⟨rfl, rfl⟩) | (go_at_call 58; refine (bytes_any N _ HS1.out).mono ?_; rintro e w' ⟨rfl, rfl⟩))
            go_ret2
            exact first_some HS1.out HY.out (by rw [HS2.out]; rfl) ((Below.refl _ _).alloc (Nat.le_refl _) _)
          · have HN := Lib.hid (no_len HM.out hs2)
            have hs3 : (((enc (accB s.data.toList (4 - 1))).length : Int) != 4) = true := bne_iff_ne.mpr (by omega)
            have HS1 := Lib.hid hs1
            clear hs1 hs2 hcont
            generalize accB s.data.toList (4 - 1) = N at a1 a2 hs3 HS1 ⊢
            go_wp2_with (first | (go_at_call 57; refine (sign_yes N _ HS1.out).mono ?_; rintro e w' ⟨rfl, rfl⟩) | (go_at_call 58; refine (bytes_any N _ HS1.out).mono ?_; rintro e w' ⟨rfl, rfl⟩))
            go_ret2
            exact first_none HN.out ((Below.refl _ _).alloc (Nat.le_refl _) _)
        · have HN := Lib.hid (no_sign HM.out hs1)
          have HS1 := Lib.hid hs1
          clear hs1 hcont
          generalize accB s.data.toList (4 - 1) = N at a1 a2 HS1 ⊢
          go_wp2_with (go_at_call 57; refine (sign_no N _ HS1.out).mono ?_; rintro e w' ⟨rfl, rfl⟩)
          go_ret2
          exact first_none HN.out (Below.refl _ _)
set_option maxRecDepth 100000 in
set_option maxHeartbeats 3200000 in
theorem first_ce (s : ByteArray) (w : World) (h0 : 0 < s.size) (hs : s.size ≤ 9223372036854775807) (lo : 248 ≤ ((s[0]'h0).toNat : Int)) : Calls Try.prog 55 #[.string s] w (FirstRes s.data.toList w) := by
  have hne : s.data.toList ≠ [] := by intro h; have : s.size = 0 := by show s.data.size = 0; rw [← Array.length_toList, h]; rfl
                                      omega
  have hlen : s.data.toList.length = s.size := rfl
  have e0 := byteV_get s 0 h0
  have hb0 := byteV_lt s.data.toList 0
  rw [e0] at hb0
  have HN := Lib.hid (no_many (r := s.data.toList) (by rw [e0]; unfold manyB; rw [if_neg (by omega), if_neg (by omega), if_neg (by omega), if_neg (by omega)]))
  clear hlen e0 hne
  go_enter Try.func55, Try.ntmps55
  go_wp2_with fail
  go_ret2
  exact first_none HN.out (Below.refl _ _)
theorem first_any (s : ByteArray) (w : World) (h0 : 0 < s.size) (hs : s.size ≤ 9223372036854775807) : Calls Try.prog 55 #[.string s] w (FirstRes s.data.toList w) := by
  rcases Int.lt_or_le ((s[0]'h0).toNat : Int) 128 with a | a
  · exact first_c1 s w h0 hs a
  rcases Int.lt_or_le ((s[0]'h0).toNat : Int) 192 with b | b
  · exact first_c0 s w h0 hs a b
  rcases Int.lt_or_le ((s[0]'h0).toNat : Int) 224 with c | c
  · exact first_c2 s w h0 hs b c
  rcases Int.lt_or_le ((s[0]'h0).toNat : Int) 240 with d | d
  · exact first_c3 s w h0 hs c d
  rcases Int.lt_or_le ((s[0]'h0).toNat : Int) 248 with e | e
  · exact first_c4 s w h0 hs d e
  · exact first_ce s w h0 hs e
end Go.Proofs.Ytghimladdioajaa
