/- The law ValueSums answers true at every a and b: sum, difference and product, or that there is none, are the document's. No condition. -/
import Derived.Test.YtfpelhacbmggeaaTruth
import Derived.Test.YtfpelhacbmggeaaSum
import Derived.Test.YtfpelhacbmggeaaSub
import Derived.Test.YtfpelhacbmggeaaMul
import Derived.BigQuiet
namespace Go.Proofs.Ytfpelhacbmggeaa
open Go.RowKit
theorem fits_same (X : Int) : fitsV X = fits X := by unfold fitsV fits; simp
/-- what the program tells: the number, the code -/
def nF (X : Int) : Int := if fits X then X else 0
def eF (X : Int) : Int := if fits X then 0 else 9
theorem is_any (X : Int) (v : Value) (w : World) (hX : szV X < ten 60) (hv : BigV w v X) :
    Calls Try.prog 29 #[.int .i64 (nF X), .int .i64 (eF X), v] w fun e w' => e = .returned (.bool true) ∧ Below w.heap.size w w' := by
  unfold nF eF
  cases h : fits X with
  | true => rw [if_pos rfl, if_pos rfl]; exact is_ok X v w hX (by rw [fits_same, h]) hv
  | false => rw [if_neg (by simp), if_neg (by simp)]; exact is_over X v w hX (by rw [fits_same, h]) hv
theorem Add_two (a b : Int) (w : World) (B : Nat) (hB : B = w.heap.size) (ha : fits a = true) (hb : fits b = true) :
    Calls Try.prog 27 #[.slice (some ⟨B, 0, none⟩) 2 2] (w.alloc (.cells #[.int .i64 a, .int .i64 b] 2)) fun e w' =>
      e = .returned (.tuple #[.int .i64 (nF (a + b)), .int .i64 (eF (a + b))]) ∧ w.alloc (.cells #[.int .i64 a, .int .i64 b] 2) = w' := by
  unfold nF eF
  cases h : fits (a + b) with
  | true => rw [if_pos rfl, if_pos rfl]; exact Add_two_ok a b w B hB ha hb h
  | false => rw [if_neg (by simp), if_neg (by simp)]; exact Add_two_none a b w B hB ha hb h
theorem Mul_two (a b : Int) (w : World) (B : Nat) (hB : B = w.heap.size) (ha : fits a = true) (hb : fits b = true) :
    Calls Try.prog 28 #[.slice (some ⟨B, 0, none⟩) 2 2] (w.alloc (.cells #[.int .i64 a, .int .i64 b] 2)) fun e w' =>
      e = .returned (.tuple #[.int .i64 (nF (a * b)), .int .i64 (eF (a * b))]) ∧ w.alloc (.cells #[.int .i64 a, .int .i64 b] 2) = w' := by
  unfold nF eF
  cases h : fits (a * b) with
  | true => rw [if_pos rfl, if_pos rfl]; exact Mul_two_ok a b w B hB ha hb h
  | false => rw [if_neg (by simp), if_neg (by simp)]; exact Mul_two_none a b w B hB ha hb h
theorem Sub_two (a b : Int) (w : World) (ha : fits a = true) (hb : fits b = true) :
    Calls Try.prog 25 #[.int .i64 a, .int .i64 b] w fun e w' => e = .returned (.tuple #[.int .i64 (nF (a + -b)), .int .i64 (eF (a + -b))]) ∧ w = w' := by
  obtain ⟨a1, a2⟩ := (fits_iff a).1 ha
  obtain ⟨b1, b2⟩ := (fits_iff b).1 hb
  rw [← Int.sub_eq_add_neg]
  unfold nF eF
  cases h : fits (a - b) with
  | true => rw [if_pos rfl, if_pos rfl]; exact sub_ok a b w a1 a2 b1 b2 h
  | false => rw [if_neg (by simp), if_neg (by simp)]; exact sub_none a b w a1 a2 b1 b2 h
theorem sz_mul (X Y : Int) : szV (X * Y) = szV X * szV Y := by
  unfold szV
  rcases (by omega : X < 0 ∨ 0 ≤ X) with h1 | h1 <;> rcases (by omega : Y < 0 ∨ Y = 0 ∨ 0 < Y) with h2 | h2 | h2
  · have := Int.mul_pos_of_neg_of_neg h1 h2
    rw [if_neg (by omega : ¬ X * Y < 0), if_pos h1, if_pos h2, Int.neg_mul_neg]
  · subst h2; simp
  · have := Int.mul_neg_of_neg_of_pos h1 h2
    rw [if_pos this, if_pos h1, if_neg (by omega : ¬ Y < 0), Int.neg_mul]
  · rcases (by omega : X = 0 ∨ 0 < X) with h3 | h3
    · subst h3; simp
    · have := Int.mul_neg_of_pos_of_neg h3 h2
      rw [if_pos this, if_neg (by omega : ¬ X < 0), if_pos h2, Int.mul_neg]
  · subst h2; simp
  · have := Int.mul_nonneg h1 (show 0 ≤ Y by omega)
    rw [if_neg (by omega : ¬ X * Y < 0), if_neg (by omega : ¬ X < 0), if_neg (by omega : ¬ Y < 0)]
theorem ten_60 : ten 60 = 1000000000000000000000000000000000000000000000000000000000000 := by decide
theorem low_small (X : Int) (h : fits X = true) : szV X ≤ 9223372036854775808 := by
  obtain ⟨h1, h2⟩ := (fits_iff X).1 h
  unfold szV; split <;> omega
theorem low_60 (X : Int) (h : fits X = true) : szV X < ten 60 := by
  have := low_small X h
  rw [ten_60]; omega
theorem sum_60 (X Y : Int) (h : fits X = true) (h' : fits Y = true) : szV (X + Y) < ten 60 := by
  obtain ⟨h1, h2⟩ := (fits_iff X).1 h
  obtain ⟨h3, h4⟩ := (fits_iff Y).1 h'
  rw [ten_60]; unfold szV; split <;> omega
theorem sub_60 (X Y : Int) (h : fits X = true) (h' : fits Y = true) : szV (X + -Y) < ten 60 := by
  obtain ⟨h1, h2⟩ := (fits_iff X).1 h
  obtain ⟨h3, h4⟩ := (fits_iff Y).1 h'
  rw [ten_60]; unfold szV; split <;> omega
theorem neg_60 (X : Int) (h : fits X = true) : szV (-X) < ten 60 := by
  obtain ⟨h1, h2⟩ := (fits_iff X).1 h
  rw [ten_60]; unfold szV; split <;> omega
theorem mul_60 (X Y : Int) (h : fits X = true) (h' : fits Y = true) : szV (X * Y) < ten 60 := by
  have h1 := low_small X h
  have h2 := low_small Y h'
  have h3 : 0 ≤ szV X := by unfold szV; split <;> omega
  have h4 : 0 ≤ szV Y := by unfold szV; split <;> omega
  have := Int.mul_le_mul h1 h2 h4 (by omega)
  rw [sz_mul, ten_60]; omega
theorem kept_sums {w w1 w2 : World} {a b c d : Addr} {x y z t : Value} {u v : Value} {X Y : Int} (h : w1.cell? a = some x ∧ w1.cell? b = some y ∧ w1.cell? c = some z ∧ w1.cell? d = some t ∧ BigV w1 u X ∧ BigV w1 v Y ∧ Below w.heap.size w w1) (hb : Below w1.heap.size w1 w2) :
    w2.cell? a = some x ∧ w2.cell? b = some y ∧ w2.cell? c = some z ∧ w2.cell? d = some t ∧ BigV w2 u X ∧ BigV w2 v Y ∧ Below w.heap.size w w2 :=
  ⟨cell_below h.1 hb, cell_below h.2.1 hb, cell_below h.2.2.1 hb, cell_below h.2.2.2.1 hb, bigV_below h.2.2.2.2.1 hb, bigV_below h.2.2.2.2.2.1 hb, h.2.2.2.2.2.2.trans (hb.mono h.2.2.2.2.2.2.size)⟩
set_option maxHeartbeats 3200000 in
theorem big_sums_walk (a b : Int) (w0 : (Lit.int .i64 a).wf = true) (w1 : (Lit.int .i64 b).wf = true) (w : World) :
    Calls Try.prog 10 #[.int .i64 a, .int .i64 b] w fun e w' => e = .returned (.bool true) ∧ Below w.heap.size w w' := by
  obtain ⟨ha, ha'⟩ := bounds_i64 w0
  obtain ⟨hb, hb'⟩ := bounds_i64 w1
  clear w0 w1
  have HA : Hid (fits a = true) := Lib.hid ((fits_iff a).2 ⟨ha, ha'⟩)
  have HB : Hid (fits b = true) := Lib.hid ((fits_iff b).2 ⟨hb, hb'⟩)
  go_enter Try.func10, Try.ntmps10
  go_wp2_with fail
  refine (awake_both _).mono ?_
  rintro e w1 ⟨rfl, _, z⟩
  go_wp2_with fail
  refine (of_any a _ ha ha').mono ?_
  rintro e w2 ⟨r1, rfl, hr1, hb1⟩
  go_wp2_with fail
  refine (of_any b _ hb hb').mono ?_
  rintro e w3 ⟨r2, rfl, hr2, hb2⟩
  replace z := (z.trans (hb1.mono z.size)).trans (hb2.mono (Nat.le_trans z.size hb1.size))
  replace hr1 := bigV_below hr1 hb2
  clear hb1 hb2
  have hr10 := hr1
  have hr20 := hr2
  obtain ⟨a1, cp1, ds1, rfl, _, _, _, _, _, _⟩ := big_parts hr10
  obtain ⟨a2, cp2, ds2, rfl, _, _, _, _, _, _⟩ := big_parts hr20
  obtain ⟨sx, hsx⟩ : ∃ sx, sx = decide (a < 0) := ⟨_, rfl⟩
  obtain ⟨sy, hsy⟩ : ∃ sy, sy = decide (b < 0) := ⟨_, rfl⟩
  rw [← hsx] at hr1 ⊢
  rw [← hsy] at hr2 ⊢
  have R1 := Lib.hid hr1; have R2 := Lib.hid hr2
  clear hsx hsy hr1 hr2
  go_wp2_with fail
  refine (Add_two a b _ _ (by simp) HA.out HB.out).mono ?_
  rintro e w' ⟨rfl, rfl⟩
  go_wp2_with fail
  refine (Sub_two a b _ HA.out HB.out).mono ?_
  rintro e w' ⟨rfl, rfl⟩
  go_wp2_with fail
  refine (Mul_two a b _ _ (by simp) HA.out HB.out).mono ?_
  rintro e w' ⟨rfl, rfl⟩
  go_wp2_with fail
  obtain ⟨w4, h4⟩ : ∃ w4, w4 = (((w3.alloc (.cells #[.bool sx, .slice a1 ds1.length cp1] 35)).alloc (.cells #[.bool sy, .slice a2 ds2.length cp2] 35)).alloc (.cells #[.int .i64 a, .int .i64 b] 2)).alloc (.cells #[.int .i64 a, .int .i64 b] 2) := ⟨_, rfl⟩
  have p0 : w4.cell? ⟨w3.heap.size, 0, none⟩ = some (.bool sx) := by rw [h4]; simp [go_sem]
  have p1 : w4.cell? ⟨w3.heap.size, 1, none⟩ = some (.slice a1 ds1.length cp1) := by rw [h4]; simp [go_sem]
  have q0 : w4.cell? ⟨w3.heap.size + 1, 0, none⟩ = some (.bool sy) := by rw [h4]; simp [go_sem]
  have q1 : w4.cell? ⟨w3.heap.size + 1, 1, none⟩ = some (.slice a2 ds2.length cp2) := by rw [h4]; simp [go_sem]
  have z4 : Below w3.heap.size w3 w4 := by rw [h4]; go_grown
  rw [← h4]
  clear h4
  replace z := z.trans (z4.mono z.size)
  have U1 := bigV_below R1.out z4
  have U2 := bigV_below R2.out z4
  have HQ : Hid ((w4.cell? ⟨w3.heap.size, 0, none⟩ = some (.bool sx) ∧ w4.cell? ⟨w3.heap.size, 1, none⟩ = some (.slice a1 ds1.length cp1) ∧ w4.cell? ⟨w3.heap.size + 1, 0, none⟩ = some (.bool sy) ∧ w4.cell? ⟨w3.heap.size + 1, 1, none⟩ = some (.slice a2 ds2.length cp2) ∧ BigV w4 (.agg #[.bool sx, .slice a1 ds1.length cp1]) a ∧ BigV w4 (.agg #[.bool sy, .slice a2 ds2.length cp2]) b ∧ Below w.heap.size w w4)) := Lib.hid ⟨p0, p1, q0, q1, U1, U2, z⟩
  have HQ2 : Hid ((w4.drew.cell? ⟨w3.heap.size, 0, none⟩ = some (.bool sx) ∧ w4.drew.cell? ⟨w3.heap.size, 1, none⟩ = some (.slice a1 ds1.length cp1) ∧ w4.drew.cell? ⟨w3.heap.size + 1, 0, none⟩ = some (.bool sy) ∧ w4.drew.cell? ⟨w3.heap.size + 1, 1, none⟩ = some (.slice a2 ds2.length cp2) ∧ BigV w4.drew (.agg #[.bool sx, .slice a1 ds1.length cp1]) a ∧ BigV w4.drew (.agg #[.bool sy, .slice a2 ds2.length cp2]) b ∧ Below w.heap.size w w4.drew)) := Lib.hid ⟨p0, p1, q0, q1, bigV_below U1 (Below.refl w4.heap.size w4).drew, bigV_below U2 (Below.refl w4.heap.size w4).drew, z.drew⟩
  clear p0 p1 q0 q1 U1 U2 z z4 R1 R2
  have I1 := Lib.hid (fun v w => is_any (a + b) v w (sum_60 a b HA.out HB.out))
  have I2 := Lib.hid (fun v w => is_any (a + -b) v w (sub_60 a b HA.out HB.out))
  have I3 := Lib.hid (fun v w => is_any (a * b) v w (mul_60 a b HA.out HB.out))
  have A1 := Lib.hid (fun u v w => badd_any a b u v w (low_60 a HA.out) (low_60 b HB.out))
  have AN := Lib.hid (fun v w => bneg_any b v w (low_60 b HB.out))
  have A2 := Lib.hid (fun u v w => badd_any a (-b) u v w (low_60 a HA.out) (neg_60 b HB.out))
  have A3 := Lib.hid (fun u v w => bmul_any a b u v w (low_60 a HA.out) (low_60 b HB.out))
  generalize nF (a + b) = n1 at I1 ⊢
  generalize eF (a + b) = m1 at I1 ⊢
  generalize nF (a + -b) = n2 at I2 ⊢
  generalize eF (a + -b) = m2 at I2 ⊢
  generalize nF (a * b) = n3 at I3 ⊢
  generalize eF (a * b) = m3 at I3 ⊢
  generalize a + b = S1 at I1 A1
  generalize a + -b = S2 at I2 A2
  generalize a * b = S3 at I3 A3
  generalize -b = N2 at AN A2
  go_region_held3 (fun w' => w'.cell? ⟨w3.heap.size, 0, none⟩ = some (.bool sx) ∧ w'.cell? ⟨w3.heap.size, 1, none⟩ = some (.slice a1 ds1.length cp1) ∧ w'.cell? ⟨w3.heap.size + 1, 0, none⟩ = some (.bool sy) ∧ w'.cell? ⟨w3.heap.size + 1, 1, none⟩ = some (.slice a2 ds2.length cp2) ∧ BigV w' (.agg #[.bool sx, .slice a1 ds1.length cp1]) a ∧ BigV w' (.agg #[.bool sy, .slice a2 ds2.length cp2]) b ∧ Below w.heap.size w w')
      (first | assumption | exact kept_sums (by assumption) hb | exact HQ.out | exact HQ2.out)
      (first
       | (go_at_call 29; refine (I3.out _ _ hr3).mono ?_; rintro e w' ⟨rfl, hb⟩)
       | (go_at_call 29; refine (I2.out _ _ hr2).mono ?_; rintro e w' ⟨rfl, hb⟩)
       | (go_at_call 29; refine (I1.out _ _ hr1).mono ?_; rintro e w' ⟨rfl, hb⟩)
       | (go_at_call 18; obtain ⟨_, _, _, _, B1, B2, _⟩ := ‹_ ∧ _ ∧ _ ∧ _ ∧ _ ∧ _ ∧ Below w.heap.size w _›; refine (A2.out _ _ _ B1 hn).mono ?_; rintro e w' ⟨r, rfl, hr2, hb⟩)
       | (go_at_call 18; obtain ⟨_, _, _, _, B1, B2, _⟩ := ‹_ ∧ _ ∧ _ ∧ _ ∧ _ ∧ _ ∧ Below w.heap.size w _›; refine (A1.out _ _ _ B1 B2).mono ?_; rintro e w' ⟨r, rfl, hr1, hb⟩)
       | (go_at_call 20; obtain ⟨_, _, _, _, B1, B2, _⟩ := ‹_ ∧ _ ∧ _ ∧ _ ∧ _ ∧ _ ∧ Below w.heap.size w _›; refine (AN.out _ _ B2).mono ?_; rintro e w' ⟨r, rfl, hn, hb⟩)
       | (go_at_call 21; obtain ⟨_, _, _, _, B1, B2, _⟩ := ‹_ ∧ _ ∧ _ ∧ _ ∧ _ ∧ _ ∧ Below w.heap.size w _›; refine (A3.out _ _ _ B1 B2).mono ?_; rintro e w' ⟨r, rfl, hr3, hb⟩)
       | (go_at_call 23; refine (order_any a b _).mono ?_; rintro e w' ⟨rfl, rfl⟩)
       | (go_at_call 24; refine (law_order_any a b _).mono ?_; rintro e w' ⟨rfl, rfl⟩))
  obtain ⟨_, _, _, _, _, _, zz⟩ := ‹_ ∧ _ ∧ _ ∧ _ ∧ _ ∧ _ ∧ Below w.heap.size w _›
  go_wp2_with fail
  go_ret
  exact ⟨rfl, zz⟩
end Go.Proofs.Ytfpelhacbmggeaa
