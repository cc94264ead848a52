/- The contract of package window's Reports over this seat's program, handed the law's closure. -/
import Derived.Test.YthfffgdelllcdaaYield
import Derived.Deep.RegionWith
import Derived.Deep.QuietTactic
import Derived.BigQuiet
import Derived.Deep.RegionHeld3
namespace Go.Proofs.Ythfffgdelllcdaa
open Go.RowKit
/-- what Reports' own closure has captured, block by block: a shape, two ends -/
def RS (W S B f0 t0 : Int) (c : Nat) (w : World) : Prop :=
  (w.cell? ⟨c, 0, none⟩ = some (.int .i64 W) ∧ w.cell? ⟨c, 1, none⟩ = some (.int .i64 S) ∧ w.cell? ⟨c, 2, none⟩ = some (.int .i64 B)) ∧ w.cell? ⟨c + 1, 0, none⟩ = some (.int .i64 f0) ∧ w.cell? ⟨c + 2, 0, none⟩ = some (.int .i64 t0)
theorem rs_below {W S B f0 t0 : Int} {c : Nat} {w w' : World} (h : RS W S B f0 t0 c w) (hb : Below w.heap.size w w') : RS W S B f0 t0 c w' := by
  obtain ⟨⟨h0, h1, h2⟩, h3, h4⟩ := h
  exact ⟨⟨cell_below h0 hb, cell_below h1 hb, cell_below h2 hb⟩, cell_below h3 hb, cell_below h4 hb⟩
theorem rs_yk {W S B f0 t0 : Int} {b c : Nat} {w w' : World} (h : RS W S B f0 t0 c w) (hb : YK b w w') (hc : b + 3 ≤ c) : RS W S B f0 t0 c w' := by
  obtain ⟨⟨h0, h1, h2⟩, h3, h4⟩ := h
  have l0 : c < _ := block_lt_of_cell h0
  have l3 : c + 1 < _ := block_lt_of_cell h3
  have l4 : c + 2 < _ := block_lt_of_cell h4
  exact ⟨⟨(cell_block (hb.2 c hc l0)).trans h0, (cell_block (hb.2 c hc l0)).trans h1, (cell_block (hb.2 c hc l0)).trans h2⟩, (cell_block (hb.2 _ (by omega) l3)).trans h3, (cell_block (hb.2 _ (by omega) l4)).trans h4⟩
theorem ys_drew {W S B fr to m x n : Int} {ok : Bool} {bS bF bT bM b : Nat} {w : World} (h : YS W S B fr to m x n ok bS bF bT bM b w) : YS W S B fr to m x n ok bS bF bT bM b w.drew := h
theorem ys_drewN {W S B fr to m x n : Int} {ok : Bool} {bS bF bT bM b : Nat} {w : World} (h : YS W S B fr to m x n ok bS bF bT bM b w) (q : Nat) : YS W S B fr to m x n ok bS bF bT bM b (w.drewN q) := h
theorem yk_drewN {b : Nat} {w w' : World} (h : YK b w w') (q : Nat) : YK b w (w'.drewN q) := ⟨⟨h.1.os, h.1.tape, h.1.output, h.1.size, h.1.block⟩, h.2⟩
theorem yk_drew {b : Nat} {w w' : World} (h : YK b w w') : YK b w w'.drew := yk_drewN h 1
theorem yk_undrew {b : Nat} {w w' : World} (h : YK b w.drew w') : YK b w w' := ⟨⟨h.1.os, h.1.tape, h.1.output, h.1.size, h.1.block⟩, h.2⟩
theorem yk_refl (b : Nat) (w : World) : YK b w w := ⟨Below.refl _ _, fun _ _ _ => rfl⟩
theorem yk_trans {b : Nat} {w w1 w2 : World} (h : YK b w w1) (h' : YK b w1 w2) : YK b w w2 :=
  ⟨h.1.trans h'.1, fun k h1 h2 => (h'.2 k h1 (Nat.lt_of_lt_of_le h2 h.1.size)).trans (h.2 k h1 h2)⟩
theorem yk_below {b : Nat} {w w1 : World} (h : Below w.heap.size w w1) (hb : b ≤ w.heap.size) : YK b w w1 := ⟨h.mono hb, fun k _ h2 => h.block k h2⟩
theorem rep_make (W S B fr to : Int) (w : World) :
    Calls Try.prog 20 #[.agg #[.int .i64 W, .int .i64 S, .int .i64 B], .int .i64 fr, .int .i64 to] w fun e w' =>
      e = .returned (.func (.func 29) #[] #[.pointer (some ⟨w.heap.size, 0, none⟩), .pointer (some ⟨w.heap.size + 1, 0, none⟩), .pointer (some ⟨w.heap.size + 1 + 1, 0, none⟩)]) ∧ RS W S B fr to w.heap.size w' ∧ Below w.heap.size w w' ∧ w'.heap.size = w.heap.size + 3 := by
  go_enter Try.func20, Try.ntmps20
  go_wp2_with fail
  go_ret
  refine ⟨rfl, ?_, by go_grown, by simp⟩
  simp [RS, go_sem]
/-- how far Reports comes: k windows have been told; where the most was not reached, the next one does not close in the while -/
def RepRes (W S B fr to m F : Int) (bS bF bT bM b : Nat) (w : World) (e : Ending) (w' : World) : Prop :=
  e = .returned (.tuple #[]) ∧ ∃ k : Nat, YS W S B fr to m (F + k) k true bS bF bT bM b w' ∧ YK b w w' ∧ F + k ≤ 4611686018427387904 ∧ ((k = 0 ∨ (k : Int) < m) ∧ to < (F + k) * S + B + W ∨ ((k : Int) = m ∨ (k = 1 ∧ m = 0)) ∧ 0 < k)
set_option maxHeartbeats 1600000 in
theorem rep_any (W S B f0 t0 m F : Int) (bS bF bT bM b c : Nat) (w : World) (h : Sh W S B) (m0 : 0 ≤ m) (m1 : m ≤ 255)
    (lS : bS < b) (lF : bF < b) (lT : bT < b) (lM : bM < b) (lc : b + 3 ≤ c) (hF : F = firstV W S B f0) (hs : YS W S B (heldV f0) (heldV t0) m F 0 true bS bF bT bM b w) (hr : RS W S B f0 t0 c w) :
    Calls Try.prog 29 #[.func (.func 21) #[] #[.pointer (some ⟨bS, 0, none⟩), .pointer (some ⟨b + 2, 0, none⟩), .pointer (some ⟨b, 0, none⟩), .pointer (some ⟨bF, 0, none⟩), .pointer (some ⟨bT, 0, none⟩), .pointer (some ⟨b + 1, 0, none⟩), .pointer (some ⟨bM, 0, none⟩)],
        .pointer (some ⟨c, 0, none⟩), .pointer (some ⟨c + 1, 0, none⟩), .pointer (some ⟨c + 2, 0, none⟩)] w
      (RepRes W S B (heldV f0) (heldV t0) m F bS bF bT bM b w) := by
  obtain ⟨f1, f2⟩ := first_bd h f0
  rw [← hF] at f1 f2
  have HF := Lib.hid hF
  clear hF
  have HS := Lib.hid hs
  have HR := Lib.hid hr
  have lb := lt_of_block hs.2.2.2.2.2.2
  obtain ⟨⟨r0, r1, r2⟩, r3, r4⟩ := hr
  have lr := block_lt_of_cell r0
  clear hs
  go_enter Try.func29, Try.ntmps29
  go_wp2_with fail
  refine (first_any W S B f0 _ h).mono ?_
  rintro e w1 ⟨rfl, hb1⟩
  rw [← HF.out]
  have HS1 := Lib.hid (ys_below HS.out hb1)
  have HR1 := Lib.hid (rs_below HR.out hb1)
  have HK1 := Lib.hid (yk_below hb1 (by omega : b ≤ w.heap.size))
  clear hb1 r0 r1 r2 r3 r4
  clear HS
  go_wp2_with fail
  go_loopw [5] (fun i wr => ∃ k : Nat, F + k ≤ 4611686018427387904 ∧ (k = 0 ∨ (k : Int) < m) ∧ i = .int .i64 (F + k) ∧ Hid (RS W S B f0 t0 c wr) ∧ Hid (YS W S B (heldV f0) (heldV t0) m (F + k) k true bS bF bT bM b wr) ∧ Hid (YK b w wr))
    (fun i _ => (4611686018427387905 - intOf i).toNat)
  case atStart => exact ⟨0, by simp; omega, .inl rfl, by simp, HR1, by simpa using HS1, HK1⟩
  case round =>
    obtain ⟨k, hk, hkm, rfl, hR, hY, hK⟩ := hrel
    clear HS1 HR1 HK1
    obtain ⟨⟨r0, r1, r2⟩, r3, r4⟩ := hR.out
    have lr4 : c + 2 < _ := block_lt_of_cell r4
    by_cases hc : 2305843009213693952 - W < (F + k) * S + B
    · go_wp2_with fail
      refine (window_err W S B (F + k) _ h (by omega) (by omega) (.inr hc)).mono ?_
      rintro e w2 ⟨rfl, hb2⟩
      have HY2 := Lib.hid (ys_below hY.out hb2)
      have HK2 := Lib.hid (yk_trans hK.out (yk_below hb2 (by omega)))
      clear r0 r1 r2 r3 r4 hb2
      go_wp2_with fail
      go_quiet (fail)
      go_wp2_with fail
      refine bodyPost_ret (v := .tuple #[]) (by simp [results, Try.results29]) rfl ?_
      refine ⟨rfl, k, ys_drewN (ys_below HY2.out ((Below.refl _ _).alloc (Nat.le_refl _) _)) _, yk_drewN (yk_trans HK2.out (yk_below ((Below.refl _ _).alloc (Nat.le_refl _) _) ?_)) _, hk, .inl ⟨hkm, ?_⟩⟩
      · have := HK2.out.1.size; omega
      · have := (held_bd t0).2; omega
    · have hc' : (F + k) * S + B ≤ 2305843009213693952 - W := by omega
      clear hc
      go_wp2_with fail
      refine (window_ok W S B (F + k) _ h (by omega) (by omega) hc').mono ?_
      rintro e w2 ⟨rfl, hb2⟩
      have HY2 := Lib.hid (ys_below hY.out hb2)
      have HK2 := Lib.hid (yk_trans hK.out (yk_below hb2 (by omega)))
      have HR2 := Lib.hid (rs_below hR.out hb2)
      have lw2 := hb2.size
      clear r0 r1 r2 r3 r4 hb2 hR hY hK
      obtain ⟨⟨r0, r1, r2⟩, r3, r4⟩ := HR2.out
      have ls0 : c + 2 < w2.heap.size := by omega
      have ls1 : c + 1 < w2.heap.size := by omega
      have ls2 : c < w2.heap.size := by omega
      by_cases ht : heldV t0 < (F + k) * S + B + W
      · have ht' : decide (heldV t0 < (F + k) * S + B + W) = true := by simpa using ht
        go_wp2_with fail
        go_quiet ((go_at_call 25; exact Calls.quiet_of_same (wheld_any _ _)))
        go_wp2_with fail
        refine bodyPost_ret (v := .tuple #[]) (by simp [results, Try.results29]) rfl ?_
        refine ⟨rfl, k, ys_drewN (ys_below HY2.out ((Below.refl _ _).alloc (Nat.le_refl _) _)) _, yk_drewN (yk_trans HK2.out (yk_below ((Below.refl _ _).alloc (Nat.le_refl _) _) ?_)) _, hk, .inl ⟨hkm, ht⟩⟩
        have := HK2.out.1.size; omega
      · have ht' : decide (heldV t0 < (F + k) * S + B + W) = false := by simpa using ht
        have hfr : heldV f0 < (F + k) * S + B + W := by
          have a := first_closes h f0
          rw [← HF.out] at a
          have b : 0 ≤ (k : Int) * S := Int.mul_nonneg (by omega) (by have := h.2.2.1; omega)
          rw [Int.add_mul]; omega
        have hb' : Below w2.heap.size w2 (w2.alloc (.cells #[.int .i64 ((F + k) * S + B), .int .i64 ((F + k) * S + B + W)] 35)) := (Below.refl _ _).alloc (Nat.le_refl _) _
        have HY3 := Lib.hid (ys_below HY2.out hb')
        have HK3 := Lib.hid (yk_trans HK2.out (yk_below hb' (by omega)))
        have HR3 := Lib.hid (rs_below HR2.out hb')
        clear hb'
        have hi1 : F + k ≤ 2306942520718368768 := by
          have a : (F + k) * 1 ≤ (F + k) * S := Int.mul_le_mul_of_nonneg_left h.2.2.1 (by omega)
          have := h.2.2.2.2.1; have := h.1; omega
        clear r0 r1 r2
        by_cases hd : (k : Int) + 1 < m
        · have hd' : Hid (true = decide ((k : Int) + 1 < m)) := Lib.hid (by simpa using hd)
          go_wp2_with fail
          go_region_with (first | (go_at_call 25; refine (wheld_any _ _).mono ?_; rintro e w' ⟨rfl, rfl⟩) | (go_at_call 21; refine (yield_any W S B (F + k) (heldV f0) (heldV t0) k m bS bF bT bM b _ h (by omega) (by omega) hc' hfr (by omega) (by omega) (by omega) m0 m1 lS lF lT lM (by first | exact HY3.out | exact ys_drew HY3.out) _ hd'.out).mono ?_; rintro e w3 ⟨rfl, hk3, hs3⟩))
          all_goals
            have HK4 := Lib.hid (yk_trans HK3.out (yk_undrew hk3))
            have HR4 := Lib.hid (rs_yk HR3.out (yk_undrew hk3) lc)
            have HY4 := Lib.hid hs3
            clear hk3 hs3
            go_wp2_with fail
            go_roundw
            case rel => exact ⟨k + 1, by omega, by omega, by go_num, HR4, by have e : (F + k + 1 : Int) = F + (k + 1 : Nat) := by omega
                                                                             have e2 : ((k : Int) + 1) = ((k + 1 : Nat) : Int) := by omega
                                                                             rw [← e, ← e2]; exact HY4, HK4⟩
            case measure => simp [intOf]; omega
        · have hd' : Hid (false = decide ((k : Int) + 1 < m)) := Lib.hid (by simpa using hd)
          go_wp2_with fail
          go_region_with (first | (go_at_call 25; refine (wheld_any _ _).mono ?_; rintro e w' ⟨rfl, rfl⟩) | (go_at_call 21; refine (yield_any W S B (F + k) (heldV f0) (heldV t0) k m bS bF bT bM b _ h (by omega) (by omega) hc' hfr (by omega) (by omega) (by omega) m0 m1 lS lF lT lM (by first | exact HY3.out | exact ys_drew HY3.out) _ hd'.out).mono ?_; rintro e w3 ⟨rfl, hk3, hs3⟩))
          all_goals
            have HK4 := Lib.hid (yk_trans HK3.out (yk_undrew hk3))
            have HY4 := Lib.hid hs3
            clear hk3 hs3
            go_wp2_with fail
            refine bodyPost_ret (v := .tuple #[]) (by simp [results, Try.results29]) rfl ?_
            refine ⟨rfl, k + 1, ?_, HK4.out, by omega, .inr ⟨by omega, by omega⟩⟩
            have e : (F + k + 1 : Int) = F + (k + 1 : Nat) := by omega
            have e2 : ((k : Int) + 1) = ((k + 1 : Nat) : Int) := by omega
            rw [← e, ← e2]; exact HY4.out
end Go.Proofs.Ythfffgdelllcdaa
