/- The law WindowAts answers true at every shape and time: a time is in just the windows that are told, one after the other, each of which closes behind it; of too many it is told. No condition. -/
import Derived.Test.YthfffgdelllcdaaNeeds
import Derived.Test.YthfffgdelllcdaaAtsPlain
namespace Go.Proofs.Ythfffgdelllcdaa
open Go.RowKit
theorem has_yes (o c t : Int) (w : World) (h1 : o ≤ t) (h2 : t < c) :
    Calls Try.prog 19 #[.agg #[.int .i64 o, .int .i64 c], .int .i64 t] w fun e w' => e = .returned (.bool true) ∧ Below w.heap.size w w' := by
  go_enter Try.func19, Try.ntmps19
  go_wp2
  go_ret
  exact ⟨rfl, (Below.refl _ _).alloc (Nat.le_refl _) _⟩
set_option maxHeartbeats 1600000 in
theorem ats_beyond (a b c t : Int) (w : World) (ht : t < -1152921504606846976 ∨ 1152921504606846976 < t) :
    Calls Try.prog 7 #[.agg #[.int .i64 a, .int .i64 b, .int .i64 c], .int .i64 t] w fun e w' => e = .returned (.bool true) ∧ Below w.heap.size w w' := by
  have HT := Lib.hid ht
  rcases ht with ht | ht
  all_goals
    go_enter Try.func7, Try.ntmps7
    go_wp2_with fail
    refine (awake_any _).mono ?_
    rintro e w1 ⟨rfl, hb1⟩
    have x0 : w1.cell? ⟨w.heap.size, 0, none⟩ = some (.int .i64 a) := cell_below (by rw [World.cell?_alloc_mark]; rfl) hb1
    have x1 : w1.cell? ⟨w.heap.size, 1, none⟩ = some (.int .i64 b) := cell_below (by rw [World.cell?_alloc_mark]; rfl) hb1
    have x2 : w1.cell? ⟨w.heap.size, 2, none⟩ = some (.int .i64 c) := cell_below (by rw [World.cell?_alloc_mark]; rfl) hb1
    have z1 := ((Below.refl w.heap.size w).alloc (Nat.le_refl _) _).trans (hb1.mono (by simp))
    clear hb1
    go_wp2_with fail
    refine (shape_any a b c _).mono ?_
    rintro e w2 ⟨W, S, B, hS, rfl, hb2⟩
    have z2 := z1.trans (hb2.mono z1.size)
    clear hb2 x0 x1 x2 z1
    obtain ⟨h1, h2, h3, h4, h5, h6⟩ := id hS
    go_wp2_with fail
    refine (at_range W S B t _ HT.out).mono ?_
    rintro e w3 ⟨rfl, hb3⟩
    have k3 := kept_step (boxed w2 W S B _) hb3
    clear hb3
    obtain ⟨c1, c2, c3, c4⟩ := k3
    have hm0 : 0 ≤ manyV W S B t := by unfold manyV; split <;> omega
    go_wp2_with fail
    refine (many_any W S B t _ hS).mono ?_
    rintro e w4 ⟨rfl, hb4⟩
    have k4 := kept_step ⟨c1, c2, c3, c4⟩ hb4
    clear hb4 c1 c2 c3 c4
    go_wp2_with fail
    go_ret
    exact ⟨rfl, z2.trans (k4.2.2.2.mono z2.size)⟩
/-- what the law asks to be told: the quotient, and one -/
theorem want_in (a S : Int) (ha : 0 ≤ a) : a.tdiv S = a / S := Int.tdiv_eq_ediv_of_nonneg ha
set_option maxHeartbeats 3200000 in
theorem ats_in (a b c t : Int) (w : World) (t1 : -1152921504606846976 ≤ t) (t2 : t ≤ 1152921504606846976) :
    Calls Try.prog 7 #[.agg #[.int .i64 a, .int .i64 b, .int .i64 c], .int .i64 t] w fun e w' => e = .returned (.bool true) ∧ Below w.heap.size w w' := by
  go_enter Try.func7, Try.ntmps7
  go_wp2_with fail
  refine (awake_any _).mono ?_
  rintro e w1 ⟨rfl, hb1⟩
  have x0 : w1.cell? ⟨w.heap.size, 0, none⟩ = some (.int .i64 a) := cell_below (by rw [World.cell?_alloc_mark]; rfl) hb1
  have x1 : w1.cell? ⟨w.heap.size, 1, none⟩ = some (.int .i64 b) := cell_below (by rw [World.cell?_alloc_mark]; rfl) hb1
  have x2 : w1.cell? ⟨w.heap.size, 2, none⟩ = some (.int .i64 c) := cell_below (by rw [World.cell?_alloc_mark]; rfl) hb1
  have z1 := ((Below.refl w.heap.size w).alloc (Nat.le_refl _) _).trans (hb1.mono (by simp))
  clear hb1
  go_wp2_with fail
  refine (shape_any a b c _).mono ?_
  rintro e w2 ⟨W, S, B, hS, rfl, hb2⟩
  have z2 := z1.trans (hb2.mono z1.size)
  clear hb2 x0 x1 x2 z1
  obtain ⟨h1, h2, h3, h4, h5, h6⟩ := id hS
  have hmf : Hid (manyV W S B t = if B + firstV W S B t * S ≤ t then (t - (B + firstV W S B t * S)) / S + 1 else 0) := Lib.hid (many_want hS t t1 t2)
  obtain ⟨f1, f2⟩ := first_bd hS t
  obtain ⟨m1, m2⟩ := first_mul hS t
  have hM0 : 0 ≤ manyV W S B t := by unfold manyV; split <;> omega
  by_cases hm : 64 < manyV W S B t
  · go_wp2_with fail
    refine (at_too W S B t _ hS t1 t2 hm).mono ?_
    rintro e w3 ⟨rfl, hb3⟩
    have k3 := kept_step (boxed w2 W S B _) hb3
    clear hb3
    obtain ⟨c1, c2, c3, c4⟩ := k3
    go_wp2_with fail
    refine (many_any W S B t _ hS).mono ?_
    rintro e w4 ⟨rfl, hb4⟩
    have k4 := kept_step ⟨c1, c2, c3, c4⟩ hb4
    clear hb4 c1 c2 c3 c4
    obtain ⟨c1, c2, c3, c4⟩ := k4
    go_wp2_with fail
    refine (first_any W S B t _ hS).mono ?_
    rintro e w5 ⟨rfl, hb5⟩
    have k5 := kept_step ⟨c1, c2, c3, c4⟩ hb5
    clear hb5 c1 c2 c3 c4
    obtain ⟨c1, c2, c3, c4⟩ := k5
    have hop : B + firstV W S B t * S ≤ t := by
      have := hmf.out
      by_cases hc : B + firstV W S B t * S ≤ t
      · exact hc
      · rw [if_neg hc] at this; omega
    have hd0 : 0 ≤ (t - (B + firstV W S B t * S)) / S := Int.ediv_nonneg (by omega) (by omega)
    have hd1 := (div_bd (t - (B + firstV W S B t * S)) S 4611686018427387904 h3 (by omega) (by omega) (by omega)).2
    have hme : Hid (manyV W S B t = (t - (B + firstV W S B t * S)) / S + 1) := Lib.hid (by have := hmf.out; rw [if_pos hop] at this; exact this)
    have hmb : (manyV W S B t != (t - (B + firstV W S B t * S)) / S + 1) = false := by simp only [bne_eq_false_iff_eq]; exact hme.out
    clear hmf
    go_wp2_with fail
    go_ret
    exact ⟨rfl, z2.trans (c4.mono z2.size)⟩
  · obtain ⟨m, hmN⟩ := Int.eq_ofNat_of_zero_le hM0
    have hm64 : (m : Int) ≤ 64 := by omega
    have HA := Lib.hid (at_ok W S B t (w2.alloc (.cells #[.int .i64 W, .int .i64 S, .int .i64 B] 25)) hS t1 t2 (by omega))
    rw [hmN] at HA hmf
    have HN := Lib.hid hmN
    clear hmN hm hM0
    go_wp2_with fail
    refine HA.out.mono ?_
    rintro e w3 ⟨v, rfl, ho, hb3⟩
    rw [Int.toNat_natCast] at ho
    have k3 := kept_step (boxed w2 W S B _) hb3
    clear hb3 HA
    obtain ⟨c1, c2, c3, c4⟩ := k3
    cases m with
    | zero =>
      obtain ⟨a0, cap0, rfl⟩ := own_zero ho
      clear ho
      go_wp2_with fail
      refine (many_any W S B t _ hS).mono ?_
      rintro e w4 ⟨rfl, hb4⟩
      rw [HN.out]
      have k4 := kept_step ⟨c1, c2, c3, c4⟩ hb4
      clear hb4 c1 c2 c3 c4
      obtain ⟨c1, c2, c3, c4⟩ := k4
      go_wp2_with fail
      refine (first_any W S B t _ hS).mono ?_
      rintro e w5 ⟨rfl, hb5⟩
      have k5 := kept_step ⟨c1, c2, c3, c4⟩ hb5
      clear hb5 c1 c2 c3 c4
      obtain ⟨c1, c2, c3, c4⟩ := k5
      have hop : ¬(B + firstV W S B t * S ≤ t) := by
        intro hc
        have := hmf.out
        rw [if_pos hc] at this
        have hd0 : 0 ≤ (t - (B + firstV W S B t * S)) / S := Int.ediv_nonneg (by omega) (by omega)
        omega
      clear hmf
      go_wp2_with fail
      refine wp_loop_rounds 1 ?_
      rw [rounds_succ]
      go_wp2_with fail
      go_ret
      exact ⟨rfl, z2.trans (c4.mono z2.size)⟩
    | succ n =>
      obtain ⟨g, cap, rfl, hc⟩ := at_cells ho
      have HC := Lib.hid hc
      clear hc ho
      go_wp2_with fail
      refine (many_any W S B t _ hS).mono ?_
      rintro e w4 ⟨rfl, hb4⟩
      rw [HN.out]
      have k4 := kept_step ⟨c1, c2, c3, c4⟩ hb4
      clear c1 c2 c3 c4
      obtain ⟨c1, c2, c3, c4⟩ := k4
      go_wp2_with fail
      refine (first_any W S B t _ hS).mono ?_
      rintro e w5 ⟨rfl, hb5⟩
      have k5 := kept_step ⟨c1, c2, c3, c4⟩ hb5
      have b35 : Below w3.heap.size w3 w5 := hb4.trans (hb5.mono hb4.size)
      clear hb4 hb5 c1 c2 c3 c4
      obtain ⟨c1, c2, c3, c4⟩ := k5
      have hop : B + firstV W S B t * S ≤ t := by
        have := hmf.out
        by_cases hc : B + firstV W S B t * S ≤ t
        · exact hc
        · rw [if_neg hc] at this; omega
      have hd0 : 0 ≤ (t - (B + firstV W S B t * S)) / S := Int.ediv_nonneg (by omega) (by omega)
      have hd1 := (div_bd (t - (B + firstV W S B t * S)) S 4611686018427387904 h3 (by omega) (by omega) (by omega)).2
      have hme : ((n : Int) + 1 != (t - (B + firstV W S B t * S)) / S + 1) = false := by
        have := hmf.out
        rw [if_pos hop] at this
        simp only [bne_eq_false_iff_eq]
        omega
      clear hmf
      go_wp2_with fail
      have K5 : Hid (w5.cell? ⟨w2.heap.size, 0, none⟩ = some (.int .i64 W) ∧ w5.cell? ⟨w2.heap.size, 1, none⟩ = some (.int .i64 S) ∧ w5.cell? ⟨w2.heap.size, 2, none⟩ = some (.int .i64 B) ∧ Below w2.heap.size w2 w5) := Lib.hid ⟨c1, c2, c3, c4⟩
      have B35 := Lib.hid b35
      clear c1 c2 c3 c4 b35 hd0 hd1 hme
      go_loopw [88] (fun i wr => ∃ k : Nat, k ≤ n + 1 ∧ i = .int .i64 k ∧ Hid (wr.cell? ⟨w2.heap.size, 0, none⟩ = some (.int .i64 W) ∧ wr.cell? ⟨w2.heap.size, 1, none⟩ = some (.int .i64 S) ∧ wr.cell? ⟨w2.heap.size, 2, none⟩ = some (.int .i64 B) ∧ Below w2.heap.size w2 wr) ∧ Hid (Below w3.heap.size w3 wr))
        (fun i _ => n + 1 - (intOf i).toNat)
      case atStart => exact ⟨0, by omega, rfl, K5, B35⟩
      case round =>
        obtain ⟨k, hk, rfl, hkept, hb3⟩ := hrel
        by_cases hlt : k < n + 1
        · have hl : wr.cell? ⟨g, k, none⟩ = some (.int .i64 (firstV W S B t + k)) := cell_below (HC.out k hlt) hb3.out
          obtain ⟨c1, c2, c3, c4⟩ := hkept.out
          obtain ⟨hcl, hne⟩ := at_close hS t t1 t2 k (by omega)
          have hopk := at_open hS t t1 t2 k (by omega) (by rw [HN.out]; omega)
          go_wp2_with fail
          refine (window_ok W S B (firstV W S B t + k) _ hS (by omega) (by omega) (by omega)).mono ?_
          rintro e w6 ⟨rfl, hb6⟩
          have k6 := kept_step ⟨c1, c2, c3, c4⟩ hb6
          have b36 : Hid (Below w3.heap.size w3 w6) := Lib.hid (hb3.out.trans (hb6.mono hb3.out.size))
          clear hb6 c1 c2 c3 c4 hb3 hkept hl
          obtain ⟨c1, c2, c3, c4⟩ := k6
          have hnd : needV W S B t ≤ (firstV W S B t + k) * S + B := hne
          clear hne
          generalize (firstV W S B t + (k : Int)) * S + B = o at hcl hopk hnd ⊢
          have hlt6 : w2.heap.size < w6.heap.size := block_lt_of_cell c1
          have e0 := cell_alloc_keep c1 (.cells #[.int .i64 o, .int .i64 (o + W)] 35)
          have e1 := cell_alloc_keep c2 (.cells #[.int .i64 o, .int .i64 (o + W)] 35)
          have e2 := cell_alloc_keep c3 (.cells #[.int .i64 o, .int .i64 (o + W)] 35)
          have o0 : (w6.alloc (.cells #[.int .i64 o, .int .i64 (o + W)] 35)).cell? ⟨w6.heap.size, 0, none⟩ = some (.int .i64 o) := by rw [World.cell?_alloc_mark]; rfl
          have o1 : (w6.alloc (.cells #[.int .i64 o, .int .i64 (o + W)] 35)).cell? ⟨w6.heap.size, 1, none⟩ = some (.int .i64 (o + W)) := by rw [World.cell?_alloc_mark]; rfl
          have e4 : Below w6.heap.size w6 (w6.alloc (.cells #[.int .i64 o, .int .i64 (o + W)] 35)) := (Below.refl _ _).alloc (Nat.le_refl _) _
          have HE := Lib.hid (And.intro e0 (And.intro e1 (And.intro e2 (And.intro o0 (And.intro o1 e4)))))
          clear e0 e1 e2 o0 o1 e4
          have g1 : decide (o + W ≤ t) = false := by simp; omega
          have g2 : decide (o < needV W S B t) = false := by simp; omega
          have g3 : IntKind.i64.wrap (firstV W S B t + k) = firstV W S B t + k := IntWalk.i64_in _ ⟨by omega, by omega⟩
          have HC4 := Lib.hid (And.intro c1 (And.intro c2 (And.intro c3 c4)))
          clear c1 c2 c3 c4
          go_wp2_with fail
          go_region_held3 (fun w' => w'.cell? ⟨w2.heap.size, 0, none⟩ = some (.int .i64 W) ∧ w'.cell? ⟨w2.heap.size, 1, none⟩ = some (.int .i64 S) ∧ w'.cell? ⟨w2.heap.size, 2, none⟩ = some (.int .i64 B) ∧ w'.cell? ⟨w6.heap.size, 0, none⟩ = some (.int .i64 o) ∧ w'.cell? ⟨w6.heap.size, 1, none⟩ = some (.int .i64 (o + W)) ∧ Below w6.heap.size w6 w') (first | assumption | exact kept_five (by assumption) hb | exact HE.out | exact ⟨HE.out.1, HE.out.2.1, HE.out.2.2.1, HE.out.2.2.2.1, HE.out.2.2.2.2.1, HE.out.2.2.2.2.2.drew⟩) (first
            | (go_at_call 19; refine (has_yes o (o + W) t _ hopk hcl).mono ?_; rintro e w' ⟨rfl, hb⟩)
            | (go_at_call 14; refine (need_any W S B t _ hS).mono ?_; rintro e w' ⟨rfl, hb⟩))
          obtain ⟨d0, d1, d2, _, _, d4⟩ := ‹_ ∧ _ ∧ _ ∧ _ ∧ _ ∧ Below w6.heap.size w6 w'›
          have KE : Hid (w'.cell? ⟨w2.heap.size, 0, none⟩ = some (.int .i64 W) ∧ w'.cell? ⟨w2.heap.size, 1, none⟩ = some (.int .i64 S) ∧ w'.cell? ⟨w2.heap.size, 2, none⟩ = some (.int .i64 B) ∧ Below w2.heap.size w2 w') := Lib.hid ⟨d0, d1, d2, HC4.out.2.2.2.trans (d4.mono HC4.out.2.2.2.size)⟩
          have B3E : Hid (Below w3.heap.size w3 w') := Lib.hid (b36.out.trans (d4.mono b36.out.size))
          clear d0 d1 d2 d4
          go_wp2_with fail
          go_roundw
          case rel => exact ⟨k + 1, by omega, by go_num, KE, B3E⟩
          case measure => simp [intOf]; omega
        · go_wp2_with fail
          go_ret
          exact ⟨rfl, z2.trans (hkept.out.2.2.2.mono z2.size)⟩
theorem ats_walk (a b c t : Int) (w : World) :
    Calls Try.prog 7 #[.agg #[.int .i64 a, .int .i64 b, .int .i64 c], .int .i64 t] w fun e w' => e = .returned (.bool true) ∧ Below w.heap.size w w' := by
  by_cases h1 : t < -1152921504606846976
  · exact ats_beyond a b c t w (.inl h1)
  · by_cases h2 : 1152921504606846976 < t
    · exact ats_beyond a b c t w (.inr h2)
    · exact ats_in a b c t w (by omega) (by omega)
end Go.Proofs.Ythfffgdelllcdaa
