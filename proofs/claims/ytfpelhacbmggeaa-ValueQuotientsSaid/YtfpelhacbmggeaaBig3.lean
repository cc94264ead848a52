/- Contracts of beckref02's trim and Of over this seat's program: a number as its sign and its digits without noughts ahead. -/
import Derived.Test.YtfpelhacbmggeaaBig2
import Derived.Test.YtfpelhacbmggeaaSumPlain
namespace Go.Proofs.Ytfpelhacbmggeaa
open Go.RowKit
/-- a value that is the number N: its sign, its digits, none of them a nought ahead -/
def BigV (w : World) (v : Value) (N : Int) : Prop := ∃ s ds, v = .agg #[.bool (decide (N < 0)), s] ∧ Dig w s ds ∧ Good ds ∧ Norm ds ∧ val ds = szV N
theorem bigV_below {w w' : World} {v : Value} {N : Int} (h : BigV w v N) (hb : Below w.heap.size w w') : BigV w' v N :=
  let ⟨s, ds, h1, h2, h3⟩ := h
  ⟨s, ds, h1, dig_below h2 hb, h3⟩
def BigRes (w : World) (N : Int) (e : Ending) (w' : World) : Prop := ∃ r, e = .returned r ∧ BigV w' r N ∧ Below w.heap.size w w'
theorem ten_19 : ten 19 = 10000000000000000000 := by decide
theorem digs_few (os : List Int) (k : Nat) (n m : Int) (hg : Good os) (hm : 1 ≤ m) (hn : n ≤ 9223372036854775808) (h : val os + ten k * m = n) : k ≤ 18 := by
  rcases Nat.lt_or_ge 18 k with hc | hc
  · have h1 := ten_mono (show 19 ≤ k by omega)
    rw [ten_19] at h1
    have h2 := Int.mul_le_mul_of_nonneg_left hm (show 0 ≤ ten k by omega)
    have h3 := val_nonneg hg
    omega
  · exact hc
theorem of_step (os : List Int) (k : Nat) (m n : Int) (ho : os.length = k) (h : val os + ten k * m = n) : val (os ++ [m % 10]) + ten (k + 1) * (m / 10) = n := by
  rw [val_snoc, ho, ten_succ, ← h]
  have e : m = m % 10 + 10 * (m / 10) := by omega
  have e2 : ten k * m = ten k * (m % 10) + 10 * ten k * (m / 10) := by
    conv => lhs; rw [e]
    rw [Int.mul_add, ← Int.mul_assoc, Int.mul_comm (ten k) 10]
  omega
theorem norm_snoc (os : List Int) (d : Int) (h : d ≠ 0) : Norm (os ++ [d]) := .inr ⟨os, d, rfl, h⟩
theorem sz_tmod (n : Int) : (if n.tmod 10 < 0 then -(n.tmod 10) else n.tmod 10) = szV n % 10 := by
  unfold szV
  by_cases h : n < 0
  · rw [if_pos h]
    have e : n.tmod 10 = -((-n) % 10) := by
      have := Int.neg_tmod (-n) 10
      rw [Int.neg_neg, Int.tmod_eq_emod_of_nonneg (a := -n) (by omega)] at this
      exact this
    rw [e]; split <;> omega
  · rw [if_neg h, Int.tmod_eq_emod_of_nonneg (by omega)]
    rw [if_neg (by omega)]
theorem sz_tdiv (n : Int) : szV (n.tdiv 10) = szV n / 10 := by
  unfold szV
  by_cases h : n < 0
  · rw [if_pos h]
    have e : n.tdiv 10 = -((-n) / 10) := by
      have := Int.neg_tdiv (-n) 10
      rw [Int.neg_neg, Int.tdiv_eq_ediv_of_nonneg (a := -n) (by omega)] at this
      exact this
    rw [e]; split <;> omega
  · rw [if_neg h, Int.tdiv_eq_ediv_of_nonneg (by omega), if_neg (by omega)]
theorem sz_zero (n : Int) : szV n = 0 ↔ n = 0 := by unfold szV; split <;> omega
theorem tdiv_in (n : Int) (h : -9223372036854775808 ≤ n) (h' : n ≤ 9223372036854775807) : -9223372036854775808 ≤ n.tdiv 10 ∧ n.tdiv 10 ≤ 9223372036854775807 := by
  have := tdiv_half n 10 (by omega) (by omega) (by omega)
  omega
set_option maxHeartbeats 3200000 in
theorem of_any (n : Int) (w : World) (h : -9223372036854775808 ≤ n) (h' : n ≤ 9223372036854775807) :
    Calls Try.prog 19 #[.int .i64 n] w (BigRes w n) := by
  obtain ⟨i0, hi, hz0, hz1, hz2⟩ := info_parts infoD
  have hnb : szV n ≤ 9223372036854775808 := by unfold szV; split <;> omega
  go_enter Try.func19, Try.ntmps19
  go_wp2_with fail
  go_loopw [0] (fun x wr => ∃ (m : Int) (k : Nat) (a : Option Addr) (cap : Nat) (os : List Int), x = .int .i64 m ∧ -9223372036854775808 ≤ m ∧ m ≤ 9223372036854775807 ∧
      Hid (os.length = k) ∧ Hid (Good os) ∧ Hid (val os + ten k * szV m = szV n) ∧ Hid (m = 0 → Norm os) ∧
      wr.cell? ⟨w.heap.size + 1, 0, none⟩ = some (.bool (decide (n < 0))) ∧ wr.cell? ⟨w.heap.size + 1, 1, none⟩ = some (.slice a k cap) ∧ wr.frozen? ⟨w.heap.size + 1, 1, none⟩ = false ∧
      wr.ownsRow (w.heap.size + 2) 3 1 (.slice a k cap) k (os.map (Value.int .i64)) ∧ Hid (Below (w.heap.size + 1) (w.alloc (.cells #[.bool false, .slice none 0 0] 35)) wr))
    (fun x _ => (intOf x).natAbs)
  case atStart =>
    exact ⟨n, 0, none, 0, [], rfl, h, h', Lib.hid rfl, Lib.hid good_nil, Lib.hid (by simp [val, ten]), Lib.hid (fun _ => .inl rfl), by simp [go_sem], by simp [go_sem], by simp [go_sem], World.ownsRow_nil _ _ _ _, Lib.hid ((Below.refl _ _).alloc (by simp) _)⟩
  case round =>
    obtain ⟨m, k, a, cap, os, rfl, m1, m2, hlen, hgood, hval, hnorm, c0, c1, c2, hown, hbel⟩ := hrel
    have hsz : w.heap.size + 1 < wr.heap.size := block_lt_of_cell c0
    by_cases hm : m = 0
    · subst hm
      have d0 : wr.cell? ⟨w.heap.size, 0, none⟩ = some (.bool false) := (hbel.out.cell (by simp)).trans (by rw [World.cell?_alloc_mark]; rfl)
      have d1 : wr.cell? ⟨w.heap.size, 1, none⟩ = some (.slice none 0 0) := (hbel.out.cell (by simp)).trans (by rw [World.cell?_alloc_mark]; rfl)
      have f0 : wr.frozen? ⟨w.heap.size, 0, none⟩ = false := (hbel.out.frozen (by simp)).trans (by simp [go_sem])
      have f1 : wr.frozen? ⟨w.heap.size, 1, none⟩ = false := (hbel.out.frozen (by simp)).trans (by simp [go_sem])
      have HO := Lib.hid hown
      have hno := hnorm.out rfl
      have HN := Lib.hid hno
      clear hnorm hno hown
      have z : Below w.heap.size w wr := ((Below.refl w.heap.size w).alloc (Nat.le_refl _) _).trans (hbel.out.mono (by simp))
      go_wp2_with fail
      have e0 : ((wr.setCell ⟨w.heap.size, 0, none⟩ (.bool (decide (n < 0)))).setCell ⟨w.heap.size, 1, none⟩ (.slice a k cap)).cell? ⟨w.heap.size, 0, none⟩ = some (.bool (decide (n < 0))) := by
        rw [World.cell?_setCell_other _ _ _ _ (by simp)]; exact World.cell?_setCell_same _ _ _ d0
      have e1 : ((wr.setCell ⟨w.heap.size, 0, none⟩ (.bool (decide (n < 0)))).setCell ⟨w.heap.size, 1, none⟩ (.slice a k cap)).cell? ⟨w.heap.size, 1, none⟩ = some (.slice a k cap) :=
        World.cell?_setCell_same _ _ _ (by rw [World.cell?_setCell_other _ _ _ _ (by simp)]; exact d1)
      refine bodyPost_ret (v := .agg #[.bool (decide (n < 0)), .slice a k cap]) (by simp [results, Try.results19, go_sem, e0, e1]) rfl ?_
      have ho2 := ownsRow_setCell_below (ownsRow_setCell_below HO.out (a := ⟨w.heap.size, 0, none⟩) (by simp) (.bool (decide (n < 0)))) (a := ⟨w.heap.size, 1, none⟩) (by simp) (.slice a k cap)
      have hv : val os = szV n := by have := hval.out; rw [show szV 0 = 0 from rfl, Int.mul_zero] at this; omega
      exact ⟨_, rfl, ⟨_, os, rfl, dig_own (by rw [hlen.out]; exact ho2), hgood.out, HN.out, hv⟩, (z.setCell (p := ⟨w.heap.size, 0, none⟩) (by simp) _).setCell (p := ⟨w.heap.size, 1, none⟩) (by simp) _⟩
    · have hbig : 1 ≤ szV m := by unfold szV; split <;> omega
      have hk18 := digs_few os k (szV n) (szV m) hgood.out hbig hnb hval.out
      obtain ⟨q1, q2⟩ := tdiv_in m m1 m2
      have hq := sz_tdiv m
      have hd := sz_tmod m
      have htm : m < 0 → m.tmod 10 ≤ 0 := fun h0 => by
        have e := Int.neg_tmod (-m) 10
        rw [Int.neg_neg, Int.tmod_eq_emod_of_nonneg (a := -m) (by omega)] at e
        omega
      have hnat : (m.tdiv 10).natAbs < m.natAbs := by have := tdiv_half m 10 (by omega) (by omega) (by omega); omega
      obtain ⟨Q, hQ⟩ : ∃ Q, Q = m.tdiv 10 := ⟨_, rfl⟩
      obtain ⟨D, hD⟩ : ∃ D, D = szV m % 10 := ⟨_, rfl⟩
      rw [← hQ] at q1 q2 hq hnat
      rw [← hD] at hd
      have d0 : 0 ≤ D := by omega
      have d9 : D ≤ 9 := by omega
      have HS : Hid (val (os ++ [D]) + ten (k + 1) * szV Q = szV n) := Lib.hid (by rw [hD, hq]; exact of_step os k (szV m) (szV n) hlen.out hval.out)
      have HNN : Hid (Q = 0 → Norm (os ++ [D])) := Lib.hid (fun h0 => norm_snoc os D (by
        rw [h0] at hq
        have : szV 0 = 0 := rfl
        omega))
      have HL : Hid ((os ++ [D]).length = k + 1) := Lib.hid (by simp [hlen.out])
      have HG : Hid (Good (os ++ [D])) := Lib.hid (good_snoc hgood.out d0 d9)
      clear hq hD hnorm hval hlen hgood hbig
      have hop : wr.ownsRow (w.heap.size + 2) 3 1 (.slice a k cap) k (os.map (Value.int .i64)) := hown
      clear hown
      rcases Int.lt_or_gt_of_ne hm with hm0 | hm0
      · by_cases hD0 : D = 0
        · subst hD0
          have ht : m.tmod 10 = 0 := by have := htm hm0; split at hd <;> omega
          have hQ' : m.tdiv 10 = Q := hQ.symm
          clear hd hQ hm
          go_wp2_with (at_builtin; refine wpList_append_own _ rfl (.tmp 17) (.tmp 19) 33 rfl (w.heap.size + 2) 3 i0 (.int .i64 0) 1 8 Try.underlying33 hi hz0 hz1 hz2 rfl (by decide) _ _ _ rfl (hop.alloc _) ⟨wr.heap.size, 0, none⟩ 1 1 [.int .i64 (0)] rfl rfl (cell_one_new _ _ _) (by simp [Value.oneCell']) (by unfold maxLen; omega) (by omega) (by simp; omega) ?_; intro v' w4 oo ga' _; obtain ⟨a', cap', rfl⟩ := own_form oo; have hb4 : Below (w.heap.size + 2) wr w4 := ((Below.refl (w.heap.size + 2) wr).alloc (by omega) _).grown ga' (by simp; omega) (fun g hg => (hop.lt g hg).1); have C0 := (hb4.cell (by simp)).trans c0; have C1 := (hb4.cell (by simp)).trans c1; have C2 := (hb4.frozen (by simp)).trans c2; have HB := Lib.hid (hbel.out.trans (hb4.mono (by omega))); have HW : w.heap.size + 1 < w4.heap.size := block_lt_of_cell C0; have OO := Lib.hid oo; clear ga' hb4 c0 c1 c2 hbel hop oo)
          exact ⟨⟨Q, k + 1, a', cap', os ++ [0], by first | rfl | rw [hQ'], q1, q2, HL, HG, HS, HNN, (World.cell?_setCell_other _ _ _ _ (by simp)).trans C0, World.cell?_setCell_same _ _ _ C1, (World.frozen?_setCell _ _ _ _).trans C2, (by rw [List.map_append]; exact ownsRow_setCell_below OO.out (a := ⟨w.heap.size + 1, 1, none⟩) (by simp) _), Lib.hid (HB.out.setCell (p := ⟨w.heap.size + 1, 1, none⟩) (by simp) _)⟩, by first | exact hnat | (rw [hQ']; exact hnat)⟩
        · have ht : m.tmod 10 = -D := by have := htm hm0; split at hd <;> omega
          have hQ' : m.tdiv 10 = Q := hQ.symm
          clear hd hQ hm
          go_wp2_with (at_builtin; refine wpList_append_own _ rfl (.tmp 17) (.tmp 19) 33 rfl (w.heap.size + 2) 3 i0 (.int .i64 0) 1 8 Try.underlying33 hi hz0 hz1 hz2 rfl (by decide) _ _ _ rfl (hop.alloc _) ⟨wr.heap.size, 0, none⟩ 1 1 [.int .i64 (D)] rfl rfl (cell_one_new _ _ _) (by simp [Value.oneCell']) (by unfold maxLen; omega) (by omega) (by simp; omega) ?_; intro v' w4 oo ga' _; obtain ⟨a', cap', rfl⟩ := own_form oo; have hb4 : Below (w.heap.size + 2) wr w4 := ((Below.refl (w.heap.size + 2) wr).alloc (by omega) _).grown ga' (by simp; omega) (fun g hg => (hop.lt g hg).1); have C0 := (hb4.cell (by simp)).trans c0; have C1 := (hb4.cell (by simp)).trans c1; have C2 := (hb4.frozen (by simp)).trans c2; have HB := Lib.hid (hbel.out.trans (hb4.mono (by omega))); have HW : w.heap.size + 1 < w4.heap.size := block_lt_of_cell C0; have OO := Lib.hid oo; clear ga' hb4 c0 c1 c2 hbel hop oo)
          exact ⟨⟨Q, k + 1, a', cap', os ++ [D], by first | rfl | rw [hQ'], q1, q2, HL, HG, HS, HNN, (World.cell?_setCell_other _ _ _ _ (by simp)).trans C0, World.cell?_setCell_same _ _ _ C1, (World.frozen?_setCell _ _ _ _).trans C2, (by rw [List.map_append]; exact ownsRow_setCell_below OO.out (a := ⟨w.heap.size + 1, 1, none⟩) (by simp) _), Lib.hid (HB.out.setCell (p := ⟨w.heap.size + 1, 1, none⟩) (by simp) _)⟩, by first | exact hnat | (rw [hQ']; exact hnat)⟩
      · have ht : m % 10 = D := by
          rw [Int.tmod_eq_emod_of_nonneg (by omega)] at hd
          split at hd <;> omega
        have hQ' : m / 10 = Q := by rw [hQ, Int.tdiv_eq_ediv_of_nonneg (by omega)]
        clear hd hQ hm
        go_wp2_with (at_builtin; refine wpList_append_own _ rfl (.tmp 17) (.tmp 19) 33 rfl (w.heap.size + 2) 3 i0 (.int .i64 0) 1 8 Try.underlying33 hi hz0 hz1 hz2 rfl (by decide) _ _ _ rfl (hop.alloc _) ⟨wr.heap.size, 0, none⟩ 1 1 [.int .i64 (D)] rfl rfl (cell_one_new _ _ _) (by simp [Value.oneCell']) (by unfold maxLen; omega) (by omega) (by simp; omega) ?_; intro v' w4 oo ga' _; obtain ⟨a', cap', rfl⟩ := own_form oo; have hb4 : Below (w.heap.size + 2) wr w4 := ((Below.refl (w.heap.size + 2) wr).alloc (by omega) _).grown ga' (by simp; omega) (fun g hg => (hop.lt g hg).1); have C0 := (hb4.cell (by simp)).trans c0; have C1 := (hb4.cell (by simp)).trans c1; have C2 := (hb4.frozen (by simp)).trans c2; have HB := Lib.hid (hbel.out.trans (hb4.mono (by omega))); have HW : w.heap.size + 1 < w4.heap.size := block_lt_of_cell C0; have OO := Lib.hid oo; clear ga' hb4 c0 c1 c2 hbel hop oo)
        exact ⟨⟨Q, k + 1, a', cap', os ++ [D], by first | rfl | rw [hQ'], q1, q2, HL, HG, HS, HNN, (World.cell?_setCell_other _ _ _ _ (by simp)).trans C0, World.cell?_setCell_same _ _ _ C1, (World.frozen?_setCell _ _ _ _).trans C2, (by rw [List.map_append]; exact ownsRow_setCell_below OO.out (a := ⟨w.heap.size + 1, 1, none⟩) (by simp) _), Lib.hid (HB.out.setCell (p := ⟨w.heap.size + 1, 1, none⟩) (by simp) _)⟩, by first | exact hnat | (rw [hQ']; exact hnat)⟩
end Go.Proofs.Ytfpelhacbmggeaa
