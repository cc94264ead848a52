/- Contracts of beckref02's digits over this seat's program: minus (of a greater by a less one), sizes. -/
import Derived.Test.YtfpelhacbmggeaaBig
namespace Go.Proofs.Ytfpelhacbmggeaa
open Go.RowKit
set_option maxHeartbeats 1600000 in
theorem minus_any (aa ba : Option Addr) (ca cb : Nat) (xs ys : List Int) (w : World) (la : xs.length ≤ 100) (_lb : ys.length ≤ 100) (ga : Good xs) (gb : Good ys) (hle : val ys ≤ val xs) (ha : DigA w aa xs) (hb : DigA w ba ys) :
    Calls Try.prog 34 #[.slice aa xs.length ca, .slice ba ys.length cb] w (PlusRes w (val xs - val ys) xs.length) := by
  obtain ⟨i0, hi, hz0, hz1, hz2⟩ := info_parts infoD
  have hA := Lib.hid ha; have hB := Lib.hid hb; have gA := Lib.hid ga; have gB := Lib.hid gb; have HLE := Lib.hid hle
  clear ha hb ga gb hle
  go_enter Try.func34, Try.ntmps34
  go_wp2_with fail
  go_loopw [5, 6, 11] (fun o c i wr => ∃ (k : Nat) (cy : Int) (os : List Int), k ≤ xs.length ∧ i = .int .i64 k ∧ c = .int .i64 cy ∧ 0 ≤ cy ∧ cy ≤ 1 ∧
      Hid (os.length = k) ∧ Hid (Good os) ∧ Hid (val os + ten k * (val (xs.drop k) - cy - val (ys.drop k)) = val xs - val ys) ∧
      wr.ownsRow w.heap.size 3 1 o k (os.map (Value.int .i64)) ∧ Below w.heap.size w wr)
    (fun _ _ i _ => (xs.length - intOf i).toNat)
  case atStart => exact ⟨0, 0, [], by omega, rfl, rfl, by omega, by omega, Lib.hid rfl, Lib.hid good_nil, Lib.hid (by simp [val, ten]), World.ownsRow_nil _ _ _ _, Below.refl _ _⟩
  case round =>
    obtain ⟨k, cy, os, hk, rfl, rfl, c0, c1, hlen, hgood, hval, hown, hbel⟩ := hrel
    have hsz := hbel.size
    by_cases hka : k < xs.length
    · obtain ⟨ga, oa, hea, ca'⟩ := digA_below hA.out hbel k hka
      subst hea
      obtain ⟨x0, x9⟩ := get_good gA.out k
      have hvx := val_drop xs k hka
      generalize xs[k]?.getD 0 = x at ca' x0 x9 hvx
      have HVX := Lib.hid hvx; clear hvx
      by_cases hkb : k < ys.length
      · obtain ⟨gb, ob, heb, cb'⟩ := digA_below hB.out hbel k hkb
        subst heb
        obtain ⟨y0, y9⟩ := get_good gB.out k
        have hvy := val_drop ys k hkb
        generalize ys[k]?.getD 0 = y at cb' y0 y9 hvy
        have HVY := Lib.hid hvy; clear hvy
        by_cases hneg : x - cy - y < 0
        · go_wp2_with (at_builtin; refine wpList_append_own _ rfl (.tmp 34) (.tmp 36) 33 rfl w.heap.size 3 i0 (.int .i64 0) 1 8 Try.underlying33 hi hz0 hz1 hz2 rfl (by decide) _ _ _ rfl (hown.alloc _) ⟨wr.heap.size, 0, none⟩ 1 1 [.int .i64 (x - cy - y + 10)] rfl rfl (cell_one_new _ _ _) (by simp [Value.oneCell']) (by unfold maxLen; omega) (by omega) (by simp; omega) ?_; intro v' w4 oo ga' _)
          have hb4 := (hbel.alloc hsz _).grown ga' (by simp; omega) (fun g hg => (hown.lt g hg).1)
          go_roundw
          case rel => exact ⟨k + 1, 1, os ++ [x - cy - y + 10], by omega, by go_num, rfl, by omega, by omega, Lib.hid (by simp [hlen.out]), Lib.hid (good_snoc hgood.out (by omega) (by omega)), Lib.hid (by rw [minus_step os k cy x y _ _ _ _ hlen.out (by omega), ← HVX.out, ← HVY.out]; exact hval.out), by simpa using oo, hb4⟩
          case measure => simp [intOf]; omega
        · go_wp2_with (at_builtin; refine wpList_append_own _ rfl (.tmp 34) (.tmp 36) 33 rfl w.heap.size 3 i0 (.int .i64 0) 1 8 Try.underlying33 hi hz0 hz1 hz2 rfl (by decide) _ _ _ rfl (hown.alloc _) ⟨wr.heap.size, 0, none⟩ 1 1 [.int .i64 (x - cy - y)] rfl rfl (cell_one_new _ _ _) (by simp [Value.oneCell']) (by unfold maxLen; omega) (by omega) (by simp; omega) ?_; intro v' w4 oo ga' _)
          have hb4 := (hbel.alloc hsz _).grown ga' (by simp; omega) (fun g hg => (hown.lt g hg).1)
          go_roundw
          case rel => exact ⟨k + 1, 0, os ++ [x - cy - y], by omega, by go_num, rfl, by omega, by omega, Lib.hid (by simp [hlen.out]), Lib.hid (good_snoc hgood.out (by omega) (by omega)), Lib.hid (by rw [minus_step os k cy x y _ _ _ _ hlen.out (by omega), ← HVX.out, ← HVY.out]; exact hval.out), by simpa using oo, hb4⟩
          case measure => simp [intOf]; omega
      · have HVY : Hid (val (ys.drop k) = 0 + 10 * val (ys.drop (k + 1))) := Lib.hid (by rw [List.drop_eq_nil_of_le (by omega), List.drop_eq_nil_of_le (by omega)]; rfl)
        by_cases hneg : x - cy < 0
        · go_wp2_with (at_builtin; refine wpList_append_own _ rfl (.tmp 34) (.tmp 36) 33 rfl w.heap.size 3 i0 (.int .i64 0) 1 8 Try.underlying33 hi hz0 hz1 hz2 rfl (by decide) _ _ _ rfl (hown.alloc _) ⟨wr.heap.size, 0, none⟩ 1 1 [.int .i64 (x - cy + 10)] rfl rfl (cell_one_new _ _ _) (by simp [Value.oneCell']) (by unfold maxLen; omega) (by omega) (by simp; omega) ?_; intro v' w4 oo ga' _)
          have hb4 := (hbel.alloc hsz _).grown ga' (by simp; omega) (fun g hg => (hown.lt g hg).1)
          go_roundw
          case rel => exact ⟨k + 1, 1, os ++ [x - cy + 10], by omega, by go_num, rfl, by omega, by omega, Lib.hid (by simp [hlen.out]), Lib.hid (good_snoc hgood.out (by omega) (by omega)), Lib.hid (by rw [minus_step os k cy x 0 _ _ _ _ hlen.out (by omega), ← HVX.out, ← HVY.out]; exact hval.out), by simpa using oo, hb4⟩
          case measure => simp [intOf]; omega
        · go_wp2_with (at_builtin; refine wpList_append_own _ rfl (.tmp 34) (.tmp 36) 33 rfl w.heap.size 3 i0 (.int .i64 0) 1 8 Try.underlying33 hi hz0 hz1 hz2 rfl (by decide) _ _ _ rfl (hown.alloc _) ⟨wr.heap.size, 0, none⟩ 1 1 [.int .i64 (x - cy)] rfl rfl (cell_one_new _ _ _) (by simp [Value.oneCell']) (by unfold maxLen; omega) (by omega) (by simp; omega) ?_; intro v' w4 oo ga' _)
          have hb4 := (hbel.alloc hsz _).grown ga' (by simp; omega) (fun g hg => (hown.lt g hg).1)
          go_roundw
          case rel => exact ⟨k + 1, 0, os ++ [x - cy], by omega, by go_num, rfl, by omega, by omega, Lib.hid (by simp [hlen.out]), Lib.hid (good_snoc hgood.out (by omega) (by omega)), Lib.hid (by rw [minus_step os k cy x 0 _ _ _ _ hlen.out (by omega), ← HVX.out, ← HVY.out]; exact hval.out), by simpa using oo, hb4⟩
          case measure => simp [intOf]; omega
    · have hke : k = xs.length := by omega
      go_wp2_with fail
      go_ret
      refine ⟨u5, os, rfl, by rw [hlen.out]; exact hown, hgood.out, ?_, by rw [hlen.out]; omega, hbel⟩
      have := hval.out
      rw [List.drop_eq_nil_of_le (by omega)] at this
      exact minus_end os k cy (val (ys.drop k)) _ hlen.out hgood.out c0 (val_nonneg (good_drop gB.out k)) (by simpa [val] using this) (by have := HLE.out; omega)
/-- -1, 0, 1 -/
def cmpV (a b : Int) : Int := if a < b then -1 else if b < a then 1 else 0
set_option maxHeartbeats 800000 in
theorem sizes_any (aa ba : Option Addr) (ca cb : Nat) (xs ys : List Int) (w : World) (la : xs.length ≤ 100) (_lb : ys.length ≤ 100) (ga : Good xs) (gb : Good ys) (na : Norm xs) (nb : Norm ys) (ha : DigA w aa xs) (hb : DigA w ba ys) :
    Calls Try.prog 33 #[.slice aa xs.length ca, .slice ba ys.length cb] w fun e w' => e = .returned (.int .i64 (cmpV (val xs) (val ys))) ∧ ∃ n, w' = w.drewN n := by
  rcases Nat.lt_trichotomy xs.length ys.length with hl | hl | hl
  · have hv := len_lt ga gb nb hl
    have HC : Hid (cmpV (val xs) (val ys) = -1) := Lib.hid (by unfold cmpV; rw [if_pos hv])
    clear ha hb ga gb na nb hv
    have h1 : (((xs.length : Nat) : Int) != (ys.length : Int)) = true := by simp; omega
    go_enter Try.func33, Try.ntmps33
    go_wp2
    go_ret
    exact ⟨ret_one (int_eq HC.out.symm), 0, rfl⟩
  · obtain ⟨n, hn⟩ : ∃ n, n = xs.length := ⟨_, rfl⟩
    have hA := Lib.hid ha; have hB := Lib.hid hb; have gA := Lib.hid ga; have gB := Lib.hid gb
    have HX : Hid (xs.length = n) := Lib.hid hn.symm
    have HY : Hid (ys.length = n) := Lib.hid (by omega)
    rw [← hl, ← hn]
    have hn100 : n ≤ 100 := by omega
    clear ha hb ga gb na nb hl hn la
    go_enter Try.func33, Try.ntmps33
    go_wp2_with fail
    go_loopw [5] (fun i wr => ∃ k q : Nat, k ≤ n ∧ i = .int .i64 ((k : Int) - 1) ∧ wr = w.drewN q ∧ Hid (xs.drop k = ys.drop k)) (fun i _ => (intOf i + 1).toNat)
    case atStart => exact ⟨n, 0, by omega, rfl, rfl, Lib.hid (by rw [List.drop_eq_nil_of_le (by rw [HX.out]; omega), List.drop_eq_nil_of_le (by rw [HY.out]; omega)])⟩
    case round =>
      obtain ⟨k, q, hk, rfl, rfl, he⟩ := hrel
      cases k with
      | zero =>
        have hee : xs = ys := by simpa using he.out
        have HC : Hid (cmpV (val xs) (val ys) = 0) := Lib.hid (by rw [hee]; simp [cmpV])
        clear hee
        go_wp2_with fail
        go_ret
        exact ⟨ret_one (int_eq HC.out.symm), q, rfl⟩
      | succ m =>
        have hmx : m < xs.length := by rw [HX.out]; omega
        have hmy : m < ys.length := by rw [HY.out]; omega
        obtain ⟨ga, oa, hea, ca'⟩ := hA.out m hmx
        subst hea
        obtain ⟨gb, ob, heb, cb'⟩ := hB.out m hmy
        subst heb
        obtain ⟨x, hx⟩ : ∃ x, x = xs[m]?.getD 0 := ⟨_, rfl⟩
        obtain ⟨y, hy⟩ : ∃ y, y = ys[m]?.getD 0 := ⟨_, rfl⟩
        rw [← hx] at ca'
        rw [← hy] at cb'
        have HDX := Lib.hid hx; have HDY := Lib.hid hy
        clear hx hy hmx hmy
        rcases Int.lt_trichotomy x y with hc | hc | hc
        · have HC : Hid (cmpV (val xs) (val ys) = -1) := Lib.hid (by
            have := val_first gA.out gB.out (by rw [HX.out, HY.out]) m (by rw [HX.out]; omega) he.out (by rw [← HDX.out, ← HDY.out]; exact hc)
            unfold cmpV; rw [if_pos this])
          have h1 : (x != y) = true := by simp; omega
          have b1 : (0 : Int) ≤ (m : Int) := by omega
          have b2 : (m : Int) < (n : Int) := by omega
          go_wp2_with fail
          go_quiet (fail)
          go_wp2_with fail
          go_quiet (fail)
          go_wp2_with fail
          go_ret
          exact ⟨ret_one (int_eq HC.out.symm), _, by rw [World.drewN_drewN, World.drewN_drewN]⟩
        · subst hc
          have HE : Hid (xs.drop m = ys.drop m) := Lib.hid (drop_same xs ys m (by rw [HX.out]; omega) (by rw [HY.out]; omega) he.out (by rw [← HDX.out, ← HDY.out]))
          have b1 : (0 : Int) ≤ (m : Int) := by omega
          have b2 : (m : Int) < (n : Int) := by omega
          go_wp2_with fail
          go_quiet (fail)
          go_wp2_with fail
          go_roundw
          case rel => exact ⟨m, q + nq, by omega, by go_num, rfl, HE⟩
          case measure => simp [intOf] <;> omega
        · have HC : Hid (cmpV (val xs) (val ys) = 1) := Lib.hid (by
            have := val_first gB.out gA.out (by rw [HX.out, HY.out]) m (by rw [HY.out]; omega) he.out.symm (by rw [← HDX.out, ← HDY.out]; exact hc)
            unfold cmpV; rw [if_neg (by omega), if_pos this])
          have h1 : (x != y) = true := by simp; omega
          have b1 : (0 : Int) ≤ (m : Int) := by omega
          have b2 : (m : Int) < (n : Int) := by omega
          go_wp2_with fail
          go_quiet (fail)
          go_wp2_with fail
          go_quiet (fail)
          go_wp2_with fail
          go_ret
          exact ⟨ret_one (int_eq HC.out.symm), _, by rw [World.drewN_drewN, World.drewN_drewN]⟩
  · have hv := len_lt gb ga na hl
    have HC : Hid (cmpV (val xs) (val ys) = 1) := Lib.hid (by unfold cmpV; rw [if_neg (by omega), if_pos hv])
    clear ha hb ga gb na nb hv
    have h1 : (((xs.length : Nat) : Int) != (ys.length : Int)) = true := by simp; omega
    go_enter Try.func33, Try.ntmps33
    go_wp2
    go_ret
    exact ⟨ret_one (int_eq HC.out.symm), 0, rfl⟩
end Go.Proofs.Ytfpelhacbmggeaa
