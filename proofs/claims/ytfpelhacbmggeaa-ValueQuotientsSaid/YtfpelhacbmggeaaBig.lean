/- Contracts of beckref02's numbers as digits over this seat's program: trim, sizes, plus, minus, Of. Digits from 0 to 9; not more than 100 of them. -/
import Derived.Test.YtfpelhacbmggeaaRows
import Derived.Test.YtfpelhacbmggeaaPlain
import Derived.Test.YtfpelhacbmggeaaBigPlain
import Derived.Test.YtfpelhacbmggeaaMem
import Derived.WalkKit
import Derived.ProofKit
import Derived.OpenShut
import Derived.Handy
import Derived.Lib.Hide
import Derived.Maps.AppendAt
namespace Go.Proofs.Ytfpelhacbmggeaa
open Go.RowKit
/-- the digits that a slice's address leads to -/
def DigA (w : World) (a : Option Addr) (ds : List Int) : Prop := ∀ j, j < ds.length → ∃ g off, a = some ⟨g, off, none⟩ ∧ w.cell? ⟨g, off + j, none⟩ = some (.int .i64 (ds[j]?.getD 0))
theorem digA_below {w w' : World} {a : Option Addr} {ds : List Int} (h : DigA w a ds) (hb : Below w.heap.size w w') : DigA w' a ds := fun j hj =>
  let ⟨g, off, h1, h2⟩ := h j hj
  ⟨g, off, h1, cell_below h2 hb⟩
/-- a slice that reads as these digits -/
def Dig (w : World) (v : Value) (ds : List Int) : Prop := ∃ a cap, v = .slice a ds.length cap ∧ ds.length ≤ cap ∧ cap ≤ 9223372036854775807 ∧ DigA w a ds
theorem dig_below {w w' : World} {v : Value} {ds : List Int} (h : Dig w v ds) (hb : Below w.heap.size w w') : Dig w' v ds :=
  let ⟨a, cap, h1, h2, h3, h4⟩ := h
  ⟨a, cap, h1, h2, h3, digA_below h4 hb⟩
theorem dig_own {w : World} {B : Nat} {T : TypeId} {v : Value} {ds : List Int} (h : w.ownsRow B T 1 v ds.length (ds.map (Value.int .i64))) : Dig w v ds := by
  obtain ⟨_, (⟨rfl, h0⟩ | ⟨g, cap, cur, rfl, h1, h2, h3, h4, _⟩)⟩ := id h
  · have : ds = [] := List.length_eq_zero_iff.1 h0
    subst this
    exact ⟨none, 0, rfl, Nat.le_refl _, by omega, fun j hj => by simp at hj⟩
  · refine ⟨_, cap, rfl, h3, h4, fun j hj => ⟨g, 0, rfl, ?_⟩⟩
    rw [Nat.zero_add, h.cellAt j (by omega)]
    simp [hj]
theorem infoD : (Try.prog.info? 3).map (fun i => (i.zero, i.size, i.bytes)) = some (some (.int .i64 0), 1, 8) := by kernel_rfl
def PlusRes (w : World) (N : Int) (L : Nat) (e : Ending) (w' : World) : Prop :=
  ∃ v os, e = .returned v ∧ w'.ownsRow w.heap.size 3 1 v os.length (os.map (Value.int .i64)) ∧ Good os ∧ val os = N ∧ os.length ≤ L ∧ Below w.heap.size w w'
set_option maxHeartbeats 1600000 in
theorem plus_any (aa ba : Option Addr) (ca cb : Nat) (xs ys : List Int) (w : World) (la : xs.length ≤ 100) (lb : ys.length ≤ 100) (ga : Good xs) (gb : Good ys) (ha : DigA w aa xs) (hb : DigA w ba ys) :
    Calls Try.prog 32 #[.slice aa xs.length ca, .slice ba ys.length cb] w (PlusRes w (val xs + val ys) (max xs.length ys.length + 1)) := by
  obtain ⟨i0, hi, hz0, hz1, hz2⟩ := info_parts infoD
  have hA := Lib.hid ha; have hB := Lib.hid hb; have gA := Lib.hid ga; have gB := Lib.hid gb
  clear ha hb ga gb
  have hmx : xs.length ≤ max xs.length ys.length := Nat.le_max_left _ _
  have hmy : ys.length ≤ max xs.length ys.length := Nat.le_max_right _ _
  have hmz : max xs.length ys.length ≤ 100 := by omega
  obtain ⟨M, hM⟩ : ∃ M, M = max xs.length ys.length := ⟨_, rfl⟩
  rw [← hM] at hmx hmy hmz
  have HMX : Hid (M = xs.length ∨ M = ys.length) := Lib.hid (by omega)
  rw [← hM]
  clear hM
  go_enter Try.func32, Try.ntmps32
  go_wp2_with fail
  go_loopw [5, 6, 7] (fun o c i wr => ∃ (k : Nat) (cy : Int) (os : List Int), k ≤ M + 1 ∧ i = .int .i64 k ∧ c = .int .i64 cy ∧ 0 ≤ cy ∧ cy ≤ 1 ∧ (k = M + 1 → cy = 0) ∧
      Hid (os.length = k) ∧ Hid (Good os) ∧ Hid (val os + ten k * (cy + val (xs.drop k) + val (ys.drop k)) = val xs + val ys) ∧
      wr.ownsRow w.heap.size 3 1 o k (os.map (Value.int .i64)) ∧ Below w.heap.size w wr)
    (fun _ c i _ => (2 * (M + 1 - intOf i) + intOf c).toNat)
  case atStart => exact ⟨0, 0, [], by omega, rfl, rfl, by omega, by omega, by omega, Lib.hid rfl, Lib.hid good_nil, Lib.hid (by simp [val, ten]), World.ownsRow_nil _ _ _ _, Below.refl _ _⟩
  case round =>
    obtain ⟨k, cy, os, hk, rfl, rfl, c0, c1, hend, hlen, hgood, hval, hown, hbel⟩ := hrel
    have hsz := hbel.size
    by_cases hgo : k < xs.length ∨ k < ys.length ∨ 0 < cy
    · have hk1 : k ≤ M := by omega
      by_cases hka : k < xs.length <;> by_cases hkb : k < ys.length
      · skip
        obtain ⟨ga, oa, hea, ca'⟩ := digA_below hA.out hbel k hka
        subst hea
        obtain ⟨x0, x9⟩ := get_good gA.out k
        have hvx := val_drop xs k hka
        generalize xs[k]?.getD 0 = x at ca' x0 x9 hvx
        have HVX := Lib.hid hvx; clear hvx
        obtain ⟨gb, ob, heb, cb'⟩ := digA_below hB.out hbel k hkb
        subst heb
        obtain ⟨y0, y9⟩ := get_good gB.out k
        have hvy := val_drop ys k hkb
        generalize ys[k]?.getD 0 = y at cb' y0 y9 hvy
        have HVY := Lib.hid hvy; clear hvy
        clear hgo
        go_wp2_with (at_builtin; refine wpList_append_own _ rfl (.tmp 44) (.tmp 47) 33 rfl w.heap.size 3 i0 (.int .i64 0) 1 8 Try.underlying33 hi hz0 hz1 hz2 rfl (by decide) _ _ _ rfl (hown.alloc _) ⟨wr.heap.size, 0, none⟩ 1 1 [.int .i64 ((cy + x + y) % 10)] rfl rfl (cell_one_new _ _ _) (by simp [Value.oneCell']) (by unfold maxLen; omega) (by omega) (by simp; omega) ?_; intro v' w4 oo ga' _)
        have hb4 := (hbel.alloc hsz _).grown ga' (by simp; omega) (fun g hg => (hown.lt g hg).1)
        go_roundw
        case rel => exact ⟨k + 1, (cy + x + y) / 10, os ++ [(cy + x + y) % 10], by omega, by go_num, rfl, by omega, by omega, by omega, Lib.hid (by simp [hlen.out]), Lib.hid (good_snoc hgood.out (by omega) (by omega)), Lib.hid (by rw [plus_step os k cy x y _ _ _ _ hlen.out (by omega), ← HVX.out, ← HVY.out]; exact hval.out), by simpa using oo, hb4⟩
        case measure => simp [intOf]; omega
      · skip
        obtain ⟨ga, oa, hea, ca'⟩ := digA_below hA.out hbel k hka
        subst hea
        obtain ⟨x0, x9⟩ := get_good gA.out k
        have hvx := val_drop xs k hka
        generalize xs[k]?.getD 0 = x at ca' x0 x9 hvx
        have HVX := Lib.hid hvx; clear hvx
        have HVY : Hid (val (ys.drop k) = 0 + 10 * val (ys.drop (k + 1))) := Lib.hid (by rw [List.drop_eq_nil_of_le (by omega), List.drop_eq_nil_of_le (by omega)]; rfl)
        clear hgo
        go_wp2_with (at_builtin; refine wpList_append_own _ rfl (.tmp 44) (.tmp 47) 33 rfl w.heap.size 3 i0 (.int .i64 0) 1 8 Try.underlying33 hi hz0 hz1 hz2 rfl (by decide) _ _ _ rfl (hown.alloc _) ⟨wr.heap.size, 0, none⟩ 1 1 [.int .i64 ((cy + x) % 10)] rfl rfl (cell_one_new _ _ _) (by simp [Value.oneCell']) (by unfold maxLen; omega) (by omega) (by simp; omega) ?_; intro v' w4 oo ga' _)
        have hb4 := (hbel.alloc hsz _).grown ga' (by simp; omega) (fun g hg => (hown.lt g hg).1)
        go_roundw
        case rel => exact ⟨k + 1, (cy + x) / 10, os ++ [(cy + x) % 10], by omega, by go_num, rfl, by omega, by omega, by omega, Lib.hid (by simp [hlen.out]), Lib.hid (good_snoc hgood.out (by omega) (by omega)), Lib.hid (by rw [plus_step os k cy x 0 _ _ _ _ hlen.out (by omega), ← HVX.out, ← HVY.out]; exact hval.out), by simpa using oo, hb4⟩
        case measure => simp [intOf]; omega
      · skip
        have HVX : Hid (val (xs.drop k) = 0 + 10 * val (xs.drop (k + 1))) := Lib.hid (by rw [List.drop_eq_nil_of_le (by omega), List.drop_eq_nil_of_le (by omega)]; rfl)
        obtain ⟨gb, ob, heb, cb'⟩ := digA_below hB.out hbel k hkb
        subst heb
        obtain ⟨y0, y9⟩ := get_good gB.out k
        have hvy := val_drop ys k hkb
        generalize ys[k]?.getD 0 = y at cb' y0 y9 hvy
        have HVY := Lib.hid hvy; clear hvy
        clear hgo
        go_wp2_with (at_builtin; refine wpList_append_own _ rfl (.tmp 44) (.tmp 47) 33 rfl w.heap.size 3 i0 (.int .i64 0) 1 8 Try.underlying33 hi hz0 hz1 hz2 rfl (by decide) _ _ _ rfl (hown.alloc _) ⟨wr.heap.size, 0, none⟩ 1 1 [.int .i64 ((cy + y) % 10)] rfl rfl (cell_one_new _ _ _) (by simp [Value.oneCell']) (by unfold maxLen; omega) (by omega) (by simp; omega) ?_; intro v' w4 oo ga' _)
        have hb4 := (hbel.alloc hsz _).grown ga' (by simp; omega) (fun g hg => (hown.lt g hg).1)
        go_roundw
        case rel => exact ⟨k + 1, (cy + y) / 10, os ++ [(cy + y) % 10], by omega, by go_num, rfl, by omega, by omega, by omega, Lib.hid (by simp [hlen.out]), Lib.hid (good_snoc hgood.out (by omega) (by omega)), Lib.hid (by rw [plus_step os k cy 0 y _ _ _ _ hlen.out (by omega), ← HVX.out, ← HVY.out]; exact hval.out), by simpa using oo, hb4⟩
        case measure => simp [intOf]; omega
      · skip
        have HVX : Hid (val (xs.drop k) = 0 + 10 * val (xs.drop (k + 1))) := Lib.hid (by rw [List.drop_eq_nil_of_le (by omega), List.drop_eq_nil_of_le (by omega)]; rfl)
        have HVY : Hid (val (ys.drop k) = 0 + 10 * val (ys.drop (k + 1))) := Lib.hid (by rw [List.drop_eq_nil_of_le (by omega), List.drop_eq_nil_of_le (by omega)]; rfl)
        have hcy : 0 < cy := by omega
        clear hgo
        go_wp2_with (at_builtin; refine wpList_append_own _ rfl (.tmp 44) (.tmp 47) 33 rfl w.heap.size 3 i0 (.int .i64 0) 1 8 Try.underlying33 hi hz0 hz1 hz2 rfl (by decide) _ _ _ rfl (hown.alloc _) ⟨wr.heap.size, 0, none⟩ 1 1 [.int .i64 ((cy) % 10)] rfl rfl (cell_one_new _ _ _) (by simp [Value.oneCell']) (by unfold maxLen; omega) (by omega) (by simp; omega) ?_; intro v' w4 oo ga' _)
        have hb4 := (hbel.alloc hsz _).grown ga' (by simp; omega) (fun g hg => (hown.lt g hg).1)
        go_roundw
        case rel => exact ⟨k + 1, (cy) / 10, os ++ [(cy) % 10], by omega, by go_num, rfl, by omega, by omega, by omega, Lib.hid (by simp [hlen.out]), Lib.hid (good_snoc hgood.out (by omega) (by omega)), Lib.hid (by rw [plus_step os k cy 0 0 _ _ _ _ hlen.out (by omega), ← HVX.out, ← HVY.out]; exact hval.out), by simpa using oo, hb4⟩
        case measure => simp [intOf]; omega
    · have hka : ¬k < xs.length := by omega
      have hkb : ¬k < ys.length := by omega
      have hcy : cy = 0 := by omega
      subst hcy
      clear hgo
      go_wp2_with fail
      go_ret
      refine ⟨u5, os, rfl, by rw [hlen.out]; exact hown, hgood.out, ?_, by rw [hlen.out]; omega, hbel⟩
      have := hval.out
      rw [List.drop_eq_nil_of_le (by omega), List.drop_eq_nil_of_le (by omega)] at this
      simpa [val] using this
end Go.Proofs.Ytfpelhacbmggeaa
