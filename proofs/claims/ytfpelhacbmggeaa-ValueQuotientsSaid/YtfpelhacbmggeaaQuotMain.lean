/- The law ValueQuotients where there is a quotient. -/
import Derived.Test.YtfpelhacbmggeaaQuotWalk
namespace Go.Proofs.Ytfpelhacbmggeaa
open Go.RowKit
theorem bigV_len {w : World} {s : Bool} {a : Option Addr} {l c : Nat} {N : Int} (h : BigV w (.agg #[.bool s, .slice a l c]) N) : s = decide (N < 0) ∧ (N = 0 → l = 0) := by
  obtain ⟨a', c', ds, h1, _, _, _, h5, h6, h7⟩ := big_parts h
  cases h1
  exact ⟨rfl, fun h0 => by rw [val_nil h5 h6 (by rw [h7, h0]; rfl)]; rfl⟩
set_option maxHeartbeats 3200000 in
theorem quot_main (a b : Int) (w : World) (ha : -9223372036854775808 ≤ a) (ha' : a ≤ 9223372036854775807) (hb : -9223372036854775808 ≤ b) (hb' : b ≤ 9223372036854775807) (h0 : b ≠ 0) (hn : ¬(a = -9223372036854775808 ∧ b = -1))
    (q r : Int) (hq : q = a.tdiv b) (hr : r = a.fdiv b) (q1 : -9223372036854775808 ≤ q) (q2 : q ≤ 9223372036854775807) (r1 : -9223372036854775808 ≤ r) (r2 : r ≤ 9223372036854775807) :
    Calls Try.prog 4 #[.int .i64 a, .int .i64 b] w fun e w' => e = .returned (.bool true) ∧ Below w.heap.size w w' := by
  have fa : fits a = true := (fits_iff a).2 ⟨ha, ha'⟩
  have fb : fits b = true := (fits_iff b).2 ⟨hb, hb'⟩
  have fq : fits q = true := (fits_iff q).2 ⟨q1, q2⟩
  have fr : fits r = true := (fits_iff r).2 ⟨r1, r2⟩
  have D1 := Lib.hid (div_ok a b · ha ha' hb hb' h0 hn)
  have D2 := Lib.hid (floor_ok a b · ha ha' hb hb' h0 hn)
  rw [← hq] at D1
  rw [← hr] at D2
  have OA := Lib.hid (fun w => (of_any a w ha ha').mono fun _ _ => bigRes_three)
  have OB := Lib.hid (fun w => (of_any b w hb hb').mono fun _ _ => bigRes_three)
  have OQ := Lib.hid (fun w => (of_any q w q1 q2).mono fun _ _ => bigRes_three)
  have OR := Lib.hid (fun w => (of_any r w r1 r2).mono fun _ _ => bigRes_three)
  have MQ := Lib.hid (fun u v w h h' => (bmul_any q b u v w (low_60 q fq) (low_60 b fb) h h').mono fun _ _ => bigRes_three)
  have MR := Lib.hid (fun u v w h h' => (bmul_any r b u v w (low_60 r fr) (low_60 b fb) h h').mono fun _ _ => bigRes_three)
  have sn : ∀ X : Int, szV (-X) = szV X := fun X => by unfold szV; split <;> split <;> omega
  have NQ := Lib.hid (fun v w h => (bneg_any (q * b) v w (mul_60 q b fq fb) h).mono fun _ _ => bigRes_three)
  have NR := Lib.hid (fun v w h => (bneg_any (r * b) v w (mul_60 r b fr fb) h).mono fun _ _ => bigRes_three)
  have AQ := Lib.hid (fun u v w h h' => (badd_any a (-(q * b)) u v w (low_60 a fa) (by rw [sn]; exact mul_60 q b fq fb) h h').mono fun _ _ => bigRes_parts')
  have AR := Lib.hid (fun u v w h h' => (badd_any a (-(r * b)) u v w (low_60 a fa) (by rw [sn]; exact mul_60 r b fr fb) h h').mono fun _ _ => bigRes_parts')
  have e1 : a + -(q * b) = a.tmod b := by rw [hq]; exact left_eq a b
  have e2 : a + -(r * b) = a.fmod b := by rw [hr]; exact down_eq a b
  have L1 := left_small a b h0
  have L2 := down_small a b h0
  rw [e1] at AQ
  rw [e2] at AR
  have g0 : (b == 0) = false := by simp [h0]
  have hor : (a == -9223372036854775808) = false ∨ ((a == -9223372036854775808) = true ∧ (b == -1) = false) := by
    by_cases hm : a = -9223372036854775808
    · exact .inr ⟨by simp [hm], by simp; exact fun h => hn ⟨hm, h⟩⟩
    · exact .inl (by simpa using hm)
  clear sn e1 e2 hq hr hn
  generalize -(q * b) = nq at NQ AQ
  generalize q * b = mq at NQ MQ
  generalize -(r * b) = nr at NR AR
  generalize r * b = mr at NR MR
  generalize a.tmod b = X at AQ L1
  generalize a.fmod b = Y at AR L2
  have FB := Lib.hid (low_60 b fb)
  clear fa fb fq fr
  go_enter Try.func4, Try.ntmps4
  go_wp2_with fail
  refine (awake_both _).mono ?_
  rintro e w1 ⟨rfl, _, z⟩
  go_wp2_with fail
  refine (D1.out _).mono ?_
  rintro e w' ⟨rfl, rfl⟩
  go_wp2_with fail
  refine (D2.out _).mono ?_
  rintro e w' ⟨rfl, rfl⟩
  rcases hor with hor | ⟨hm, hor⟩
  all_goals
    go_wp2_with fail
    refine (OA.out _).mono ?_
    rintro e w11 ⟨s11, a11, l11, c11, rfl, hA, h⟩
    replace z := z.trans (h.mono z.size)
    clear h
    go_wp2_with fail
    refine (OQ.out _).mono ?_
    rintro e w12 ⟨s12, a12, l12, c12, rfl, hQ, h⟩
    replace z := z.trans (h.mono z.size)
    replace hA := bigV_below hA h
    clear h
    go_wp2_with fail
    refine (OB.out _).mono ?_
    rintro e w13 ⟨s13, a13, l13, c13, rfl, hB, h⟩
    replace z := z.trans (h.mono z.size)
    replace hA := bigV_below hA h
    replace hQ := bigV_below hQ h
    clear h
    go_wp2_with fail
    refine (MQ.out _ _ _ hQ hB).mono ?_
    rintro e w14 ⟨s14, a14, l14, c14, rfl, hM, h⟩
    replace z := z.trans (h.mono z.size)
    replace hA := bigV_below hA h
    clear h hQ hB
    go_wp2_with fail
    refine (NQ.out _ _ hM).mono ?_
    rintro e w15 ⟨s15, a15, l15, c15, rfl, hN, h⟩
    replace z := z.trans (h.mono z.size)
    replace hA := bigV_below hA h
    clear h hM
    go_wp2_with fail
    refine (AQ.out _ _ _ hA hN).mono ?_
    rintro e w16 ⟨s16, a16, l16, c16, rfl, hs1, hX, h⟩
    replace z := z.trans (h.mono z.size)
    clear h hA hN
    have HS1 := Lib.hid hs1
    clear hs1
    go_wp2_with fail
    obtain ⟨W1, hW⟩ : ∃ W, W = w16.alloc (.cells #[.bool s16, .slice a16 l16 c16] 35) := ⟨_, rfl⟩
    have p10 : W1.cell? ⟨w16.heap.size, 0, none⟩ = some (.bool s16) := by rw [hW]; simp [go_sem]
    have p11 : W1.cell? ⟨w16.heap.size, 1, none⟩ = some (.slice a16 l16 c16) := by rw [hW]; simp [go_sem]
    have h : Below w16.heap.size w16 W1 := by rw [hW]; go_grown
    rw [← hW]
    replace z := z.trans (h.mono z.size)
    replace hX := bigV_below hX h
    clear hW h
    refine (OA.out _).mono ?_
    rintro e w21 ⟨s21, a21, l21, c21, rfl, hA, h⟩
    replace z := z.trans (h.mono z.size)
    replace p10 := cell_below p10 h
    replace p11 := cell_below p11 h
    replace hX := bigV_below hX h
    clear h
    go_wp2_with fail
    refine (OR.out _).mono ?_
    rintro e w22 ⟨s22, a22, l22, c22, rfl, hQ, h⟩
    replace z := z.trans (h.mono z.size)
    replace hA := bigV_below hA h
    replace p10 := cell_below p10 h
    replace p11 := cell_below p11 h
    replace hX := bigV_below hX h
    clear h
    go_wp2_with fail
    refine (OB.out _).mono ?_
    rintro e w23 ⟨s23, a23, l23, c23, rfl, hB, h⟩
    replace z := z.trans (h.mono z.size)
    replace hA := bigV_below hA h
    replace hQ := bigV_below hQ h
    replace p10 := cell_below p10 h
    replace p11 := cell_below p11 h
    replace hX := bigV_below hX h
    clear h
    go_wp2_with fail
    refine (MR.out _ _ _ hQ hB).mono ?_
    rintro e w24 ⟨s24, a24, l24, c24, rfl, hM, h⟩
    replace z := z.trans (h.mono z.size)
    replace hA := bigV_below hA h
    replace p10 := cell_below p10 h
    replace p11 := cell_below p11 h
    replace hX := bigV_below hX h
    clear h hQ hB
    go_wp2_with fail
    refine (NR.out _ _ hM).mono ?_
    rintro e w25 ⟨s25, a25, l25, c25, rfl, hN, h⟩
    replace z := z.trans (h.mono z.size)
    replace hA := bigV_below hA h
    replace p10 := cell_below p10 h
    replace p11 := cell_below p11 h
    replace hX := bigV_below hX h
    clear h hM
    go_wp2_with fail
    refine (AR.out _ _ _ hA hN).mono ?_
    rintro e w26 ⟨s26, a26, l26, c26, rfl, hs2, hY, h⟩
    replace z := z.trans (h.mono z.size)
    replace p10 := cell_below p10 h
    replace p11 := cell_below p11 h
    replace hX := bigV_below hX h
    clear h hA hN
    have HS2 := Lib.hid hs2
    clear hs2
    go_wp2_with fail
    obtain ⟨W2, hW⟩ : ∃ W, W = w26.alloc (.cells #[.bool s26, .slice a26 l26 c26] 35) := ⟨_, rfl⟩
    have p20 : W2.cell? ⟨w26.heap.size, 0, none⟩ = some (.bool s26) := by rw [hW]; simp [go_sem]
    have p21 : W2.cell? ⟨w26.heap.size, 1, none⟩ = some (.slice a26 l26 c26) := by rw [hW]; simp [go_sem]
    have h : Below w26.heap.size w26 W2 := by rw [hW]; go_grown
    rw [← hW]
    replace z := z.trans (h.mono z.size)
    replace hY := bigV_below hY h
    replace p10 := cell_below p10 h
    replace p11 := cell_below p11 h
    replace hX := bigV_below hX h
    clear hW h
    refine (OB.out _).mono ?_
    rintro e w7 ⟨s7, a7, l7, c7, rfl, hB, h⟩
    replace z := z.trans (h.mono z.size)
    replace p10 := cell_below p10 h
    replace p11 := cell_below p11 h
    replace hX := bigV_below hX h
    replace p20 := cell_below p20 h
    replace p21 := cell_below p21 h
    replace hY := bigV_below hY h
    clear h
    have hl1 := block_lt_of_cell p10
    have hl2 := block_lt_of_cell p20
    go_wp2_with fail
    obtain ⟨W3, hW⟩ : ∃ W, W = w7.alloc (.cells #[.bool false, .slice a7 l7 c7] 35) := ⟨_, rfl⟩
    have p30 : W3.cell? ⟨w7.heap.size, 0, none⟩ = some (.bool false) := by rw [hW]; simp [go_sem]
    have p31 : W3.cell? ⟨w7.heap.size, 1, none⟩ = some (.slice a7 l7 c7) := by rw [hW]; simp [go_sem]
    have h : Below w7.heap.size w7 W3 := by rw [hW]; go_grown
    rw [← hW]
    replace z := z.trans (h.mono z.size)
    replace hB := bigV_abs (bigV_below hB h)
    replace p10 := cell_below p10 h
    replace p11 := cell_below p11 h
    replace hX := bigV_below hX h
    replace p20 := cell_below p20 h
    replace p21 := cell_below p21 h
    replace hY := bigV_below hY h
    clear hW h
    refine (small_any X b _ _ _ _ _ _ (by have := FB.out; omega) FB.out L1.1 hX p30 p31 hB).mono ?_
    rintro e w8 ⟨rfl, h⟩
    replace z := z.trans (h.mono z.size)
    replace hB := bigV_below hB h
    replace p30 := cell_below p30 h
    replace p31 := cell_below p31 h
    replace p10 := cell_below p10 h
    replace p11 := cell_below p11 h
    replace hX := bigV_below hX h
    replace p20 := cell_below p20 h
    replace p21 := cell_below p21 h
    replace hY := bigV_below hY h
    clear h
    go_wp2_with fail
    refine (small_any Y b _ _ _ _ _ _ (by have := FB.out; omega) FB.out L2.1 hY p30 p31 hB).mono ?_
    rintro e w9 ⟨rfl, h⟩
    replace z := z.trans (h.mono z.size)
    replace p10 := cell_below p10 h
    replace p11 := cell_below p11 h
    replace hX := bigV_below hX h
    replace p20 := cell_below p20 h
    replace p21 := cell_below p21 h
    replace hY := bigV_below hY h
    clear h
    have X1 := bigV_len hX
    have Y1 := bigV_len hY
    have hx : l16 = 0 ∨ (((l16 : Int) == 0) = false ∧ s16 = decide (a < 0)) := by
      rcases Nat.eq_zero_or_pos l16 with h | h
      · exact .inl h
      · rcases L1.2 with h2 | h2
        · exact .inl (X1.2 h2)
        · exact .inr ⟨by simp; omega, by rw [X1.1]; exact eq_of_beq h2⟩
    have hy : l26 = 0 ∨ (((l26 : Int) == 0) = false ∧ s26 = decide (b < 0)) := by
      rcases Nat.eq_zero_or_pos l26 with h | h
      · exact .inl h
      · rcases L2.2 with h2 | h2
        · exact .inl (Y1.2 h2)
        · exact .inr ⟨by simp; omega, by rw [Y1.1]; exact eq_of_beq h2⟩
    clear X1 Y1 L1 L2 HS1 HS2 hX hY hB
    rcases hx with rfl | ⟨hxl, rfl⟩
    all_goals rcases hy with rfl | ⟨hyl, rfl⟩
    all_goals go_wp2_with fail
    all_goals go_ret
    all_goals exact ⟨rfl, z⟩
end Go.Proofs.Ytfpelhacbmggeaa
