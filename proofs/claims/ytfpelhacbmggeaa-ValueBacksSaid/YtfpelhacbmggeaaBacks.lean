/- The law ValueBacks answers true at every a and b: sums and products are the same either way; what is added, and taken away again, leaves what was there. No condition. -/
import Derived.Test.YtfpelhacbmggeaaTruth
import Derived.Test.YtfpelhacbmggeaaSum
import Derived.Test.YtfpelhacbmggeaaSub
namespace Go.Proofs.Ytfpelhacbmggeaa
open Go.RowKit
theorem add_back (a b : Int) : a + b - b = a := by omega
theorem sub_back (a b : Int) : a - b + b = a := by omega
theorem backs_yyy (a b : Int) (ha : -9223372036854775808 ≤ a) (ha' : a ≤ 9223372036854775807) (hb : -9223372036854775808 ≤ b) (hb' : b ≤ 9223372036854775807)
    (hs : Hid (fits (a + b) = true)) (hm : Hid (fits (a * b) = true)) (hd : Hid (fits (a - b) = true)) (w : World) :
    Calls Try.prog 9 #[.int .i64 a, .int .i64 b] w fun e w' => e = .returned (.bool true) ∧ Grown w w' := by
  have HA : Hid (fits a = true) := Lib.hid ((fits_iff a).2 ⟨ha, ha'⟩)
  have HB : Hid (fits b = true) := Lib.hid ((fits_iff b).2 ⟨hb, hb'⟩)
  have hs2 : Hid (fits (b + a) = true) := Lib.hid (by rw [Int.add_comm]; exact hs.out)
  have hm2 : Hid (fits (b * a) = true) := Lib.hid (by rw [Int.mul_comm]; exact hm.out)
  go_enter Try.func9, Try.ntmps9
  go_wp2_with fail
  refine (awake_any _).mono ?_
  rintro e w1 ⟨rfl, hg⟩
  go_wp2_with fail
  refine (Add_two_ok a b _ _ (by simp) HA.out HB.out hs.out).mono ?_
  rintro e w' ⟨rfl, rfl⟩
  go_wp2_with fail
  refine (Add_two_ok b a _ _ (by simp) HB.out HA.out hs2.out).mono ?_
  rintro e w' ⟨rfl, rfl⟩
  rw [Int.add_comm b a]
  go_wp2_with fail
  refine (Mul_two_ok a b _ _ (by simp) HA.out HB.out hm.out).mono ?_
  rintro e w' ⟨rfl, rfl⟩
  go_wp2_with fail
  refine (Mul_two_ok b a _ _ (by simp) HB.out HA.out hm2.out).mono ?_
  rintro e w' ⟨rfl, rfl⟩
  rw [Int.mul_comm b a]
  obtain ⟨s1, s2⟩ := (fits_iff (a + b)).1 hs.out
  have hbk : Hid (fits (a + b - b) = true) := Lib.hid (by rw [add_back]; exact HA.out)
  go_wp2_with fail
  refine (sub_ok (a + b) b _ s1 s2 hb hb' hbk.out).mono ?_
  rintro e w' ⟨rfl, rfl⟩
  rw [add_back]
  go_wp2_with fail
  refine (sub_ok a b _ ha ha' hb hb' hd.out).mono ?_
  rintro e w' ⟨rfl, rfl⟩
  obtain ⟨d1, d2⟩ := (fits_iff (a - b)).1 hd.out
  have hsb : Hid (fits (a - b + b) = true) := Lib.hid (by rw [sub_back]; exact HA.out)
  go_wp2_with fail
  refine (Add_two_ok (a - b) b _ _ (by simp) hd.out HB.out hsb.out).mono ?_
  rintro e w' ⟨rfl, rfl⟩
  rw [sub_back]
  go_wp2_with fail
  go_ret
  exact ⟨rfl, by repeat (first | exact hg | apply Grown.alloc)⟩
theorem backs_yyn (a b : Int) (ha : -9223372036854775808 ≤ a) (ha' : a ≤ 9223372036854775807) (hb : -9223372036854775808 ≤ b) (hb' : b ≤ 9223372036854775807)
    (hs : Hid (fits (a + b) = true)) (hm : Hid (fits (a * b) = true)) (hd : Hid (fits (a - b) = false)) (w : World) :
    Calls Try.prog 9 #[.int .i64 a, .int .i64 b] w fun e w' => e = .returned (.bool true) ∧ Grown w w' := by
  have HA : Hid (fits a = true) := Lib.hid ((fits_iff a).2 ⟨ha, ha'⟩)
  have HB : Hid (fits b = true) := Lib.hid ((fits_iff b).2 ⟨hb, hb'⟩)
  have hs2 : Hid (fits (b + a) = true) := Lib.hid (by rw [Int.add_comm]; exact hs.out)
  have hm2 : Hid (fits (b * a) = true) := Lib.hid (by rw [Int.mul_comm]; exact hm.out)
  go_enter Try.func9, Try.ntmps9
  go_wp2_with fail
  refine (awake_any _).mono ?_
  rintro e w1 ⟨rfl, hg⟩
  go_wp2_with fail
  refine (Add_two_ok a b _ _ (by simp) HA.out HB.out hs.out).mono ?_
  rintro e w' ⟨rfl, rfl⟩
  go_wp2_with fail
  refine (Add_two_ok b a _ _ (by simp) HB.out HA.out hs2.out).mono ?_
  rintro e w' ⟨rfl, rfl⟩
  rw [Int.add_comm b a]
  go_wp2_with fail
  refine (Mul_two_ok a b _ _ (by simp) HA.out HB.out hm.out).mono ?_
  rintro e w' ⟨rfl, rfl⟩
  go_wp2_with fail
  refine (Mul_two_ok b a _ _ (by simp) HB.out HA.out hm2.out).mono ?_
  rintro e w' ⟨rfl, rfl⟩
  rw [Int.mul_comm b a]
  obtain ⟨s1, s2⟩ := (fits_iff (a + b)).1 hs.out
  have hbk : Hid (fits (a + b - b) = true) := Lib.hid (by rw [add_back]; exact HA.out)
  go_wp2_with fail
  refine (sub_ok (a + b) b _ s1 s2 hb hb' hbk.out).mono ?_
  rintro e w' ⟨rfl, rfl⟩
  rw [add_back]
  go_wp2_with fail
  refine (sub_none a b _ ha ha' hb hb' hd.out).mono ?_
  rintro e w' ⟨rfl, rfl⟩
  go_wp2_with fail
  go_ret
  exact ⟨rfl, by repeat (first | exact hg | apply Grown.alloc)⟩
theorem backs_yny (a b : Int) (ha : -9223372036854775808 ≤ a) (ha' : a ≤ 9223372036854775807) (hb : -9223372036854775808 ≤ b) (hb' : b ≤ 9223372036854775807)
    (hs : Hid (fits (a + b) = true)) (hm : Hid (fits (a * b) = false)) (hd : Hid (fits (a - b) = true)) (w : World) :
    Calls Try.prog 9 #[.int .i64 a, .int .i64 b] w fun e w' => e = .returned (.bool true) ∧ Grown w w' := by
  have HA : Hid (fits a = true) := Lib.hid ((fits_iff a).2 ⟨ha, ha'⟩)
  have HB : Hid (fits b = true) := Lib.hid ((fits_iff b).2 ⟨hb, hb'⟩)
  have hs2 : Hid (fits (b + a) = true) := Lib.hid (by rw [Int.add_comm]; exact hs.out)
  have hm2 : Hid (fits (b * a) = false) := Lib.hid (by rw [Int.mul_comm]; exact hm.out)
  go_enter Try.func9, Try.ntmps9
  go_wp2_with fail
  refine (awake_any _).mono ?_
  rintro e w1 ⟨rfl, hg⟩
  go_wp2_with fail
  refine (Add_two_ok a b _ _ (by simp) HA.out HB.out hs.out).mono ?_
  rintro e w' ⟨rfl, rfl⟩
  go_wp2_with fail
  refine (Add_two_ok b a _ _ (by simp) HB.out HA.out hs2.out).mono ?_
  rintro e w' ⟨rfl, rfl⟩
  rw [Int.add_comm b a]
  go_wp2_with fail
  refine (Mul_two_none a b _ _ (by simp) HA.out HB.out hm.out).mono ?_
  rintro e w' ⟨rfl, rfl⟩
  go_wp2_with fail
  refine (Mul_two_none b a _ _ (by simp) HB.out HA.out hm2.out).mono ?_
  rintro e w' ⟨rfl, rfl⟩
  obtain ⟨s1, s2⟩ := (fits_iff (a + b)).1 hs.out
  have hbk : Hid (fits (a + b - b) = true) := Lib.hid (by rw [add_back]; exact HA.out)
  go_wp2_with fail
  refine (sub_ok (a + b) b _ s1 s2 hb hb' hbk.out).mono ?_
  rintro e w' ⟨rfl, rfl⟩
  rw [add_back]
  go_wp2_with fail
  refine (sub_ok a b _ ha ha' hb hb' hd.out).mono ?_
  rintro e w' ⟨rfl, rfl⟩
  obtain ⟨d1, d2⟩ := (fits_iff (a - b)).1 hd.out
  have hsb : Hid (fits (a - b + b) = true) := Lib.hid (by rw [sub_back]; exact HA.out)
  go_wp2_with fail
  refine (Add_two_ok (a - b) b _ _ (by simp) hd.out HB.out hsb.out).mono ?_
  rintro e w' ⟨rfl, rfl⟩
  rw [sub_back]
  go_wp2_with fail
  go_ret
  exact ⟨rfl, by repeat (first | exact hg | apply Grown.alloc)⟩
theorem backs_ynn (a b : Int) (ha : -9223372036854775808 ≤ a) (ha' : a ≤ 9223372036854775807) (hb : -9223372036854775808 ≤ b) (hb' : b ≤ 9223372036854775807)
    (hs : Hid (fits (a + b) = true)) (hm : Hid (fits (a * b) = false)) (hd : Hid (fits (a - b) = false)) (w : World) :
    Calls Try.prog 9 #[.int .i64 a, .int .i64 b] w fun e w' => e = .returned (.bool true) ∧ Grown w w' := by
  have HA : Hid (fits a = true) := Lib.hid ((fits_iff a).2 ⟨ha, ha'⟩)
  have HB : Hid (fits b = true) := Lib.hid ((fits_iff b).2 ⟨hb, hb'⟩)
  have hs2 : Hid (fits (b + a) = true) := Lib.hid (by rw [Int.add_comm]; exact hs.out)
  have hm2 : Hid (fits (b * a) = false) := Lib.hid (by rw [Int.mul_comm]; exact hm.out)
  go_enter Try.func9, Try.ntmps9
  go_wp2_with fail
  refine (awake_any _).mono ?_
  rintro e w1 ⟨rfl, hg⟩
  go_wp2_with fail
  refine (Add_two_ok a b _ _ (by simp) HA.out HB.out hs.out).mono ?_
  rintro e w' ⟨rfl, rfl⟩
  go_wp2_with fail
  refine (Add_two_ok b a _ _ (by simp) HB.out HA.out hs2.out).mono ?_
  rintro e w' ⟨rfl, rfl⟩
  rw [Int.add_comm b a]
  go_wp2_with fail
  refine (Mul_two_none a b _ _ (by simp) HA.out HB.out hm.out).mono ?_
  rintro e w' ⟨rfl, rfl⟩
  go_wp2_with fail
  refine (Mul_two_none b a _ _ (by simp) HB.out HA.out hm2.out).mono ?_
  rintro e w' ⟨rfl, rfl⟩
  obtain ⟨s1, s2⟩ := (fits_iff (a + b)).1 hs.out
  have hbk : Hid (fits (a + b - b) = true) := Lib.hid (by rw [add_back]; exact HA.out)
  go_wp2_with fail
  refine (sub_ok (a + b) b _ s1 s2 hb hb' hbk.out).mono ?_
  rintro e w' ⟨rfl, rfl⟩
  rw [add_back]
  go_wp2_with fail
  refine (sub_none a b _ ha ha' hb hb' hd.out).mono ?_
  rintro e w' ⟨rfl, rfl⟩
  go_wp2_with fail
  go_ret
  exact ⟨rfl, by repeat (first | exact hg | apply Grown.alloc)⟩
theorem backs_nyy (a b : Int) (ha : -9223372036854775808 ≤ a) (ha' : a ≤ 9223372036854775807) (hb : -9223372036854775808 ≤ b) (hb' : b ≤ 9223372036854775807)
    (hs : Hid (fits (a + b) = false)) (hm : Hid (fits (a * b) = true)) (hd : Hid (fits (a - b) = true)) (w : World) :
    Calls Try.prog 9 #[.int .i64 a, .int .i64 b] w fun e w' => e = .returned (.bool true) ∧ Grown w w' := by
  have HA : Hid (fits a = true) := Lib.hid ((fits_iff a).2 ⟨ha, ha'⟩)
  have HB : Hid (fits b = true) := Lib.hid ((fits_iff b).2 ⟨hb, hb'⟩)
  have hs2 : Hid (fits (b + a) = false) := Lib.hid (by rw [Int.add_comm]; exact hs.out)
  have hm2 : Hid (fits (b * a) = true) := Lib.hid (by rw [Int.mul_comm]; exact hm.out)
  go_enter Try.func9, Try.ntmps9
  go_wp2_with fail
  refine (awake_any _).mono ?_
  rintro e w1 ⟨rfl, hg⟩
  go_wp2_with fail
  refine (Add_two_none a b _ _ (by simp) HA.out HB.out hs.out).mono ?_
  rintro e w' ⟨rfl, rfl⟩
  go_wp2_with fail
  refine (Add_two_none b a _ _ (by simp) HB.out HA.out hs2.out).mono ?_
  rintro e w' ⟨rfl, rfl⟩
  go_wp2_with fail
  refine (Mul_two_ok a b _ _ (by simp) HA.out HB.out hm.out).mono ?_
  rintro e w' ⟨rfl, rfl⟩
  go_wp2_with fail
  refine (Mul_two_ok b a _ _ (by simp) HB.out HA.out hm2.out).mono ?_
  rintro e w' ⟨rfl, rfl⟩
  rw [Int.mul_comm b a]
  go_wp2_with fail
  refine (sub_ok a b _ ha ha' hb hb' hd.out).mono ?_
  rintro e w' ⟨rfl, rfl⟩
  obtain ⟨d1, d2⟩ := (fits_iff (a - b)).1 hd.out
  have hsb : Hid (fits (a - b + b) = true) := Lib.hid (by rw [sub_back]; exact HA.out)
  go_wp2_with fail
  refine (Add_two_ok (a - b) b _ _ (by simp) hd.out HB.out hsb.out).mono ?_
  rintro e w' ⟨rfl, rfl⟩
  rw [sub_back]
  go_wp2_with fail
  go_ret
  exact ⟨rfl, by repeat (first | exact hg | apply Grown.alloc)⟩
theorem backs_nyn (a b : Int) (ha : -9223372036854775808 ≤ a) (ha' : a ≤ 9223372036854775807) (hb : -9223372036854775808 ≤ b) (hb' : b ≤ 9223372036854775807)
    (hs : Hid (fits (a + b) = false)) (hm : Hid (fits (a * b) = true)) (hd : Hid (fits (a - b) = false)) (w : World) :
    Calls Try.prog 9 #[.int .i64 a, .int .i64 b] w fun e w' => e = .returned (.bool true) ∧ Grown w w' := by
  have HA : Hid (fits a = true) := Lib.hid ((fits_iff a).2 ⟨ha, ha'⟩)
  have HB : Hid (fits b = true) := Lib.hid ((fits_iff b).2 ⟨hb, hb'⟩)
  have hs2 : Hid (fits (b + a) = false) := Lib.hid (by rw [Int.add_comm]; exact hs.out)
  have hm2 : Hid (fits (b * a) = true) := Lib.hid (by rw [Int.mul_comm]; exact hm.out)
  go_enter Try.func9, Try.ntmps9
  go_wp2_with fail
  refine (awake_any _).mono ?_
  rintro e w1 ⟨rfl, hg⟩
  go_wp2_with fail
  refine (Add_two_none a b _ _ (by simp) HA.out HB.out hs.out).mono ?_
  rintro e w' ⟨rfl, rfl⟩
  go_wp2_with fail
  refine (Add_two_none b a _ _ (by simp) HB.out HA.out hs2.out).mono ?_
  rintro e w' ⟨rfl, rfl⟩
  go_wp2_with fail
  refine (Mul_two_ok a b _ _ (by simp) HA.out HB.out hm.out).mono ?_
  rintro e w' ⟨rfl, rfl⟩
  go_wp2_with fail
  refine (Mul_two_ok b a _ _ (by simp) HB.out HA.out hm2.out).mono ?_
  rintro e w' ⟨rfl, rfl⟩
  rw [Int.mul_comm b a]
  go_wp2_with fail
  refine (sub_none a b _ ha ha' hb hb' hd.out).mono ?_
  rintro e w' ⟨rfl, rfl⟩
  go_wp2_with fail
  go_ret
  exact ⟨rfl, by repeat (first | exact hg | apply Grown.alloc)⟩
theorem backs_nny (a b : Int) (ha : -9223372036854775808 ≤ a) (ha' : a ≤ 9223372036854775807) (hb : -9223372036854775808 ≤ b) (hb' : b ≤ 9223372036854775807)
    (hs : Hid (fits (a + b) = false)) (hm : Hid (fits (a * b) = false)) (hd : Hid (fits (a - b) = true)) (w : World) :
    Calls Try.prog 9 #[.int .i64 a, .int .i64 b] w fun e w' => e = .returned (.bool true) ∧ Grown w w' := by
  have HA : Hid (fits a = true) := Lib.hid ((fits_iff a).2 ⟨ha, ha'⟩)
  have HB : Hid (fits b = true) := Lib.hid ((fits_iff b).2 ⟨hb, hb'⟩)
  have hs2 : Hid (fits (b + a) = false) := Lib.hid (by rw [Int.add_comm]; exact hs.out)
  have hm2 : Hid (fits (b * a) = false) := Lib.hid (by rw [Int.mul_comm]; exact hm.out)
  go_enter Try.func9, Try.ntmps9
  go_wp2_with fail
  refine (awake_any _).mono ?_
  rintro e w1 ⟨rfl, hg⟩
  go_wp2_with fail
  refine (Add_two_none a b _ _ (by simp) HA.out HB.out hs.out).mono ?_
  rintro e w' ⟨rfl, rfl⟩
  go_wp2_with fail
  refine (Add_two_none b a _ _ (by simp) HB.out HA.out hs2.out).mono ?_
  rintro e w' ⟨rfl, rfl⟩
  go_wp2_with fail
  refine (Mul_two_none a b _ _ (by simp) HA.out HB.out hm.out).mono ?_
  rintro e w' ⟨rfl, rfl⟩
  go_wp2_with fail
  refine (Mul_two_none b a _ _ (by simp) HB.out HA.out hm2.out).mono ?_
  rintro e w' ⟨rfl, rfl⟩
  go_wp2_with fail
  refine (sub_ok a b _ ha ha' hb hb' hd.out).mono ?_
  rintro e w' ⟨rfl, rfl⟩
  obtain ⟨d1, d2⟩ := (fits_iff (a - b)).1 hd.out
  have hsb : Hid (fits (a - b + b) = true) := Lib.hid (by rw [sub_back]; exact HA.out)
  go_wp2_with fail
  refine (Add_two_ok (a - b) b _ _ (by simp) hd.out HB.out hsb.out).mono ?_
  rintro e w' ⟨rfl, rfl⟩
  rw [sub_back]
  go_wp2_with fail
  go_ret
  exact ⟨rfl, by repeat (first | exact hg | apply Grown.alloc)⟩
theorem backs_nnn (a b : Int) (ha : -9223372036854775808 ≤ a) (ha' : a ≤ 9223372036854775807) (hb : -9223372036854775808 ≤ b) (hb' : b ≤ 9223372036854775807)
    (hs : Hid (fits (a + b) = false)) (hm : Hid (fits (a * b) = false)) (hd : Hid (fits (a - b) = false)) (w : World) :
    Calls Try.prog 9 #[.int .i64 a, .int .i64 b] w fun e w' => e = .returned (.bool true) ∧ Grown w w' := by
  have HA : Hid (fits a = true) := Lib.hid ((fits_iff a).2 ⟨ha, ha'⟩)
  have HB : Hid (fits b = true) := Lib.hid ((fits_iff b).2 ⟨hb, hb'⟩)
  have hs2 : Hid (fits (b + a) = false) := Lib.hid (by rw [Int.add_comm]; exact hs.out)
  have hm2 : Hid (fits (b * a) = false) := Lib.hid (by rw [Int.mul_comm]; exact hm.out)
  go_enter Try.func9, Try.ntmps9
  go_wp2_with fail
  refine (awake_any _).mono ?_
  rintro e w1 ⟨rfl, hg⟩
  go_wp2_with fail
  refine (Add_two_none a b _ _ (by simp) HA.out HB.out hs.out).mono ?_
  rintro e w' ⟨rfl, rfl⟩
  go_wp2_with fail
  refine (Add_two_none b a _ _ (by simp) HB.out HA.out hs2.out).mono ?_
  rintro e w' ⟨rfl, rfl⟩
  go_wp2_with fail
  refine (Mul_two_none a b _ _ (by simp) HA.out HB.out hm.out).mono ?_
  rintro e w' ⟨rfl, rfl⟩
  go_wp2_with fail
  refine (Mul_two_none b a _ _ (by simp) HB.out HA.out hm2.out).mono ?_
  rintro e w' ⟨rfl, rfl⟩
  go_wp2_with fail
  refine (sub_none a b _ ha ha' hb hb' hd.out).mono ?_
  rintro e w' ⟨rfl, rfl⟩
  go_wp2_with fail
  go_ret
  exact ⟨rfl, by repeat (first | exact hg | apply Grown.alloc)⟩
theorem backs_walk (a b : Int) (w0 : (Lit.int .i64 a).wf = true) (w1 : (Lit.int .i64 b).wf = true) (w : World) :
    Calls Try.prog 9 #[.int .i64 a, .int .i64 b] w fun e w' => e = .returned (.bool true) ∧ Grown w w' := by
  obtain ⟨ha, ha'⟩ := bounds_i64 w0
  obtain ⟨hb, hb'⟩ := bounds_i64 w1
  cases h1 : fits (a + b) <;> cases h2 : fits (a * b) <;> cases h3 : fits (a - b)
  · exact backs_nnn a b ha ha' hb hb' (Lib.hid h1) (Lib.hid h2) (Lib.hid h3) w
  · exact backs_nny a b ha ha' hb hb' (Lib.hid h1) (Lib.hid h2) (Lib.hid h3) w
  · exact backs_nyn a b ha ha' hb hb' (Lib.hid h1) (Lib.hid h2) (Lib.hid h3) w
  · exact backs_nyy a b ha ha' hb hb' (Lib.hid h1) (Lib.hid h2) (Lib.hid h3) w
  · exact backs_ynn a b ha ha' hb hb' (Lib.hid h1) (Lib.hid h2) (Lib.hid h3) w
  · exact backs_yny a b ha ha' hb hb' (Lib.hid h1) (Lib.hid h2) (Lib.hid h3) w
  · exact backs_yyn a b ha ha' hb hb' (Lib.hid h1) (Lib.hid h2) (Lib.hid h3) w
  · exact backs_yyy a b ha ha' hb hb' (Lib.hid h1) (Lib.hid h2) (Lib.hid h3) w
end Go.Proofs.Ytfpelhacbmggeaa
