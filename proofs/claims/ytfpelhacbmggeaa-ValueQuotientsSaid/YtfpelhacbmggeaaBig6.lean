/- Contracts of beckref02's Same and Fits, and of the law's own 'is', over this seat's program. -/
import Derived.Test.YtfpelhacbmggeaaBig5
namespace Go.Proofs.Ytfpelhacbmggeaa
open Go.RowKit
theorem sz_same (X Y : Int) (h : (decide (X < 0) == decide (Y < 0)) = true) : decide (cmpV (szV X) (szV Y) = 0) = decide (X = Y) := by
  unfold cmpV szV
  by_cases h1 : X < 0 <;> by_cases h2 : Y < 0 <;> simp [h1, h2] at h ⊢ <;> split <;> (try split) <;> simp <;> omega
theorem sz_other (X Y : Int) (h : (decide (X < 0) == decide (Y < 0)) = false) : decide (X = Y) = false := by
  by_cases h1 : X < 0 <;> by_cases h2 : Y < 0 <;> simp [h1, h2] at h ⊢ <;> omega
set_option maxHeartbeats 1600000 in
theorem same_any (X Y : Int) (u v : Value) (w : World) (hX : szV X < ten 60) (hY : szV Y < ten 60) (hu : BigV w u X) (hv : BigV w v Y) :
    Calls Try.prog 39 #[u, v] w fun e w' => e = .returned (.bool (decide (X = Y))) ∧ Below w.heap.size w w' := by
  obtain ⟨a, cap, xs, rfl, c1, c2, hd, hg, hn, hvx⟩ := big_parts hu
  obtain ⟨b, cbp, ys, rfl, e1, e2, kd, kg, kn, hvy⟩ := big_parts hv
  have hl : xs.length ≤ 60 := len_le hg hn (by rw [hvx]; exact hX)
  have kl : ys.length ≤ 60 := len_le kg kn (by rw [hvy]; exact hY)
  have HD := Lib.hid hd; have HG := Lib.hid hg; have HN := Lib.hid hn; have HV := Lib.hid hvx
  have KD := Lib.hid kd; have KG := Lib.hid kg; have KN := Lib.hid kn; have KV := Lib.hid hvy
  clear hd hg hn hvx kd kg kn hvy hu hv hX hY
  go_enter Try.func39, Try.ntmps39
  obtain ⟨sx, hsx⟩ : ∃ sx, sx = decide (X < 0) := ⟨_, rfl⟩
  obtain ⟨sy, hsy⟩ : ∃ sy, sy = decide (Y < 0) := ⟨_, rfl⟩
  obtain ⟨D, hD⟩ : ∃ D, D = decide (X = Y) := ⟨_, rfl⟩
  rw [← hsx, ← hsy, ← hD]
  cases hs : (sx == sy) with
  | true =>
    have HA : Hid (decide (cmpV (val xs) (val ys) = 0) = D) := Lib.hid (by rw [HV.out, KV.out, hD]; exact sz_same X Y (by rw [← hsx, ← hsy]; exact hs))
    clear hsx hsy hD
    go_wp2_with fail
    obtain ⟨w2, h2⟩ : ∃ w2, w2 = (w.alloc (.cells #[.bool sx, .slice a xs.length cap] 35)).alloc (.cells #[.bool sy, .slice b ys.length cbp] 35) := ⟨_, rfl⟩
    have z : Below w.heap.size w w2 := by rw [h2]; go_grown
    rw [← h2]
    clear h2
    refine (sizes_any a b cap cbp xs ys w2 (by omega) (by omega) HG.out KG.out HN.out KN.out (digA_below HD.out z) (digA_below KD.out z)).mono ?_
    rintro e w' ⟨rfl, n, rfl⟩
    go_wp2_with fail
    go_ret
    exact ⟨ret_one (congrArg Value.bool (by rw [← HA.out]; rfl)), below_drewN z n⟩
  | false =>
    have HA : Hid (D = false) := Lib.hid (by rw [hD]; exact sz_other X Y (by rw [← hsx, ← hsy]; exact hs))
    clear hsx hsy hD
    go_wp2_with fail
    go_ret
    exact ⟨ret_one (congrArg Value.bool HA.out.symm), by go_grown⟩
def fitsV (X : Int) : Bool := decide (-9223372036854775808 ≤ X ∧ X ≤ 9223372036854775807)
theorem fits_low (X : Int) (h : X < 0) : decide (cmpV (szV X) (szV (-9223372036854775808)) ≤ 0) = fitsV X := by
  have e : szV (-9223372036854775808) = 9223372036854775808 := by decide
  rw [e]
  unfold cmpV szV fitsV
  rw [if_pos h]
  split <;> (try split) <;> simp <;> omega
theorem fits_high (X : Int) (h : ¬ X < 0) : decide (cmpV (szV X) (szV 9223372036854775807) ≤ 0) = fitsV X := by
  have e : szV 9223372036854775807 = 9223372036854775807 := by decide
  rw [e]
  unfold cmpV szV fitsV
  rw [if_neg h]
  split <;> (try split) <;> simp <;> omega
theorem sz_low : szV (-9223372036854775808) < ten 60 := by decide
theorem sz_high : szV 9223372036854775807 < ten 60 := by decide
theorem lows (X : Int) (h : -9223372036854775808 ≤ X) (h' : X ≤ 9223372036854775807) : szV X < ten 60 := by
  have := ten_mono (show 19 ≤ 60 by omega)
  rw [ten_19] at this
  unfold szV; split <;> omega
set_option maxHeartbeats 1600000 in
theorem fits_any (X : Int) (u : Value) (w : World) (hX : szV X < ten 60) (hu : BigV w u X) :
    Calls Try.prog 26 #[u] w fun e w' => e = .returned (.bool (fitsV X)) ∧ Below w.heap.size w w' := by
  obtain ⟨a, cap, xs, rfl, c1, c2, hd, hg, hn, hvx⟩ := big_parts hu
  have hl : xs.length ≤ 60 := len_le hg hn (by rw [hvx]; exact hX)
  have HD := Lib.hid hd; have HG := Lib.hid hg; have HN := Lib.hid hn; have HV := Lib.hid hvx
  clear hd hg hn hvx hu hX
  go_enter Try.func26, Try.ntmps26
  obtain ⟨sx, hsx⟩ : ∃ sx, sx = decide (X < 0) := ⟨_, rfl⟩
  obtain ⟨D, hD⟩ : ∃ D, D = fitsV X := ⟨_, rfl⟩
  rw [← hsx, ← hD]
  have HSX := Lib.hid hsx; have HDX := Lib.hid hD
  clear hsx hD
  go_wp2_with fail
  obtain ⟨w1, h1⟩ : ∃ w1, w1 = w.alloc (.cells #[.bool sx, .slice a xs.length cap] 35) := ⟨_, rfl⟩
  have p0 : w1.cell? ⟨w.heap.size, 0, none⟩ = some (.bool sx) := by rw [h1]; simp [go_sem]
  have p1 : w1.cell? ⟨w.heap.size, 1, none⟩ = some (.slice a xs.length cap) := by rw [h1]; simp [go_sem]
  have z : Below w.heap.size w w1 := by rw [h1]; go_grown
  rw [← h1]
  clear h1
  refine (of_any _ _ (by omega) (by omega)).mono ?_
  rintro e w2 ⟨r1, rfl, hr1, hb1⟩
  go_wp2_with fail
  refine (of_any _ _ (by omega) (by omega)).mono ?_
  rintro e w3 ⟨r2, rfl, hr2, hb2⟩
  replace p0 := cell_below (cell_below p0 hb1) hb2
  replace p1 := cell_below (cell_below p1 hb1) hb2
  replace z := (z.trans (hb1.mono z.size)).trans (hb2.mono (Nat.le_trans z.size hb1.size))
  replace hr1 := bigV_below hr1 hb2
  clear hb1 hb2
  obtain ⟨b1, q1, ds1, rfl, _, _, m1, m2, m3, m4⟩ := big_parts hr1
  obtain ⟨b2, q2, ds2, rfl, _, _, n1, n2, n3, n4⟩ := big_parts hr2
  have l1 : ds1.length ≤ 60 := len_le m2 m3 (by rw [m4]; exact sz_low)
  have l2 : ds2.length ≤ 60 := len_le n2 n3 (by rw [n4]; exact sz_high)
  have M1 := Lib.hid m1; have M2 := Lib.hid m2; have M3 := Lib.hid m3; have M4 := Lib.hid m4
  have N1 := Lib.hid n1; have N2 := Lib.hid n2; have N3 := Lib.hid n3; have N4 := Lib.hid n4
  clear hr1 hr2 m1 m2 m3 m4 n1 n2 n3 n4
  have hlt := block_lt_of_cell p0
  cases sx with
  | true =>
    have HR : Hid (decide (cmpV (val xs) (val ds1) ≤ 0) = D) := Lib.hid (by rw [HV.out, M4.out, HDX.out]; exact fits_low X (by have := HSX.out; simpa using this.symm))
    go_wp2_with fail
    refine (sizes_any a b1 cap q1 xs ds1 _ (by omega) (by omega) HG.out M2.out HN.out M3.out (digA_below HD.out (show Below w.heap.size w _ from ((z.alloc z.size _).alloc (by simp; have := z.size; omega) _))) (digA_below M1.out (show Below w3.heap.size w3 _ by go_grown))).mono ?_
    rintro e w' ⟨rfl, n, rfl⟩
    go_wp2_with fail
    go_ret
    exact ⟨ret_one (congrArg Value.bool HR.out), below_drewN ((z.alloc z.size _).alloc (by simp; have := z.size; omega) _) n⟩
  | false =>
    have HR : Hid (decide (cmpV (val xs) (val ds2) ≤ 0) = D) := Lib.hid (by rw [HV.out, N4.out, HDX.out]; exact fits_high X (by have := HSX.out; simpa using this.symm))
    go_wp2_with fail
    refine (sizes_any a b2 cap q2 xs ds2 _ (by omega) (by omega) HG.out N2.out HN.out N3.out (digA_below HD.out (show Below w.heap.size w _ from ((z.alloc z.size _).alloc (by simp; have := z.size; omega) _))) (digA_below N1.out (show Below w3.heap.size w3 _ by go_grown))).mono ?_
    rintro e w' ⟨rfl, n, rfl⟩
    go_wp2_with fail
    go_ret
    exact ⟨ret_one (congrArg Value.bool HR.out), below_drewN ((z.alloc z.size _).alloc (by simp; have := z.size; omega) _) n⟩
theorem kept_two {w w1 w2 : World} {a b : Addr} {x y : Value} (h : w1.cell? a = some x ∧ w1.cell? b = some y ∧ Below w.heap.size w w1) (hb : Below w1.heap.size w1 w2) :
    w2.cell? a = some x ∧ w2.cell? b = some y ∧ Below w.heap.size w w2 :=
  ⟨cell_below h.1 hb, cell_below h.2.1 hb, h.2.2.trans (hb.mono h.2.2.size)⟩
set_option maxHeartbeats 1600000 in
theorem is_over (X : Int) (v : Value) (w : World) (hX : szV X < ten 60) (hf : fitsV X = false) (hv : BigV w v X) :
    Calls Try.prog 29 #[.int .i64 0, .int .i64 9, v] w fun e w' => e = .returned (.bool true) ∧ Below w.heap.size w w' := by
  have hv0 := hv
  obtain ⟨s, ds, rfl, h4⟩ := hv0
  obtain ⟨sx, hsx⟩ : ∃ sx, sx = decide (X < 0) := ⟨_, rfl⟩
  rw [← hsx] at hv ⊢
  have HB := Lib.hid hv
  clear h4 hv hsx
  go_enter Try.func29, Try.ntmps29
  go_wp2_with fail
  have z : Below w.heap.size w (w.alloc (.cells #[.bool sx, s] 35)) := by go_grown
  refine (fits_any X _ _ hX (bigV_below HB.out z)).mono ?_
  rintro e w2 ⟨rfl, hb⟩
  rw [hf]
  replace z := z.trans (hb.mono z.size)
  go_wp2_with fail
  go_ret
  exact ⟨rfl, z⟩
set_option maxHeartbeats 1600000 in
theorem is_ok (X : Int) (v : Value) (w : World) (hX : szV X < ten 60) (hf : fitsV X = true) (hv : BigV w v X) :
    Calls Try.prog 29 #[.int .i64 X, .int .i64 0, v] w fun e w' => e = .returned (.bool true) ∧ Below w.heap.size w w' := by
  have hv0 := hv
  obtain ⟨s, ds, rfl, h4⟩ := hv0
  obtain ⟨sx, hsx⟩ : ∃ sx, sx = decide (X < 0) := ⟨_, rfl⟩
  rw [← hsx] at hv ⊢
  have HB := Lib.hid hv
  clear h4 hv hsx
  go_enter Try.func29, Try.ntmps29
  go_wp2_with fail
  have z : Below w.heap.size w (w.alloc (.cells #[.bool sx, s] 35)) := by go_grown
  refine (fits_any X _ _ hX (bigV_below HB.out z)).mono ?_
  rintro e w2 ⟨rfl, hb⟩
  rw [hf]
  have hx : -9223372036854775808 ≤ X ∧ X ≤ 9223372036854775807 := by simpa [fitsV] using hf
  have p0 : w2.cell? ⟨w.heap.size, 0, none⟩ = some (.bool sx) := cell_below (by simp [go_sem]) hb
  have p1 : w2.cell? ⟨w.heap.size, 1, none⟩ = some s := cell_below (by simp [go_sem]) hb
  replace z := z.trans (hb.mono z.size)
  have HX := Lib.hid hX
  have HE := Lib.hid hx
  clear hb hX hx
  go_wp2_with fail
  go_region_held3 (fun w' => w'.cell? ⟨w.heap.size, 0, none⟩ = some (.bool sx) ∧ w'.cell? ⟨w.heap.size, 1, none⟩ = some s ∧ Below w.heap.size w w')
      (first | assumption | exact kept_two (by assumption) hb | exact ⟨p0, p1, z⟩ | exact ⟨p0, p1, z.drew⟩)
      (first
       | (go_at_call 19; refine (of_any X _ HE.out.1 HE.out.2).mono ?_; rintro e wp ⟨r, rfl, hr, hb⟩; have hbz := Lib.hid (hb.mono (B' := w.heap.size) z.size))
       | (go_at_call 39; refine (same_any X X _ _ _ HX.out HX.out hr (bigV_below HB.out (z.drew.trans hbz.out))).mono ?_; rintro e wt ⟨rfl, hb⟩))
  obtain ⟨_, _, zz⟩ := ‹_ ∧ _ ∧ Below w.heap.size w _›
  go_wp2_with fail
  go_ret
  exact ⟨rfl, zz⟩
end Go.Proofs.Ytfpelhacbmggeaa
