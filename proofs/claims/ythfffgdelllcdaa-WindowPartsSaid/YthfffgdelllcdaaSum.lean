/- Contracts of package value's sums and products over this seat's program: add, size, mul, fold with each, Add, Mul. No condition but the ranges of the integers. -/
import Derived.Test.YthfffgdelllcdaaRows
import Derived.Test.YthfffgdelllcdaaPlain
import Derived.Test.YthfffgdelllcdaaSumPlain
import Derived.Test.YthfffgdelllcdaaShelf
import Derived.WalkKit
import Derived.ProofKit
import Derived.OpenShut
import Derived.Handy
import Derived.Lib.Hide
import Derived.Laws.OwnMore
namespace Go.Proofs.Ythfffgdelllcdaa
open Go.RowKit
theorem add_any (a b : Int) (w : World) (ha : -9223372036854775808 ≤ a) (ha' : a ≤ 9223372036854775807) (hb : -9223372036854775808 ≤ b) (hb' : b ≤ 9223372036854775807) :
    Calls Try.prog 33 #[.int .i64 a, .int .i64 b] w fun e w' => e = .returned (.tuple #[.int .i64 (wrap64 (a + b)), .bool (fits (a + b))]) ∧ w = w' := by
  go_enter Try.func33, Try.ntmps33
  go_wp2
  go_ret2
  exact ⟨ret_two rfl (congrArg Value.bool (add_fits a b ha ha' hb hb')), rfl⟩
theorem size_any (a : Int) (w : World) (ha : -9223372036854775808 ≤ a) (ha' : a ≤ 9223372036854775807) :
    Calls Try.prog 36 #[.int .i64 a] w fun e w' => e = .returned (.int .u64 (szV a)) ∧ w = w' := by
  go_enter Try.func36, Try.ntmps36
  go_wp2
  all_goals go_ret
  · exact ⟨ret_one (int_eq (szV_neg a ha (by assumption))), rfl⟩
  · exact ⟨ret_one (int_eq (szV_pos a (by assumption))), rfl⟩
theorem mul64_any (x y : Int) (w : World) (hx : 0 ≤ x) (hx' : x < 18446744073709551616) (hy : 0 ≤ y) (hy' : y < 18446744073709551616) :
    Calls Try.prog 35 #[.int .u64 x, .int .u64 y] w fun e w' => e = .returned (.tuple #[.int .u64 (hiV x y), .int .u64 (loV x y)]) ∧ w = w' := by
  obtain ⟨x, rfl⟩ := Int.eq_ofNat_of_zero_le hx
  obtain ⟨y, rfl⟩ := Int.eq_ofNat_of_zero_le hy
  refine (Try.bits_Mul64 x y (by omega) (by omega) w).mono ?_
  rintro e w' ⟨rfl, rfl⟩
  exact ⟨by simp [hiV, loV], rfl⟩
theorem mul_any (a b : Int) (w : World) (ha : -9223372036854775808 ≤ a) (ha' : a ≤ 9223372036854775807) (hb : -9223372036854775808 ≤ b) (hb' : b ≤ 9223372036854775807) :
    Calls Try.prog 32 #[.int .i64 a, .int .i64 b] w fun e w' => e = .returned (.tuple #[.int .i64 (wrap64 (a * b)), .bool (fits (a * b))]) ∧ w = w' := by
  obtain ⟨x0, x1⟩ := szV_bd a ha ha'
  obtain ⟨y0, y1⟩ := szV_bd b hb hb'
  go_enter Try.func32, Try.ntmps32
  go_wp2_with fail
  refine (size_any a _ ha ha').mono ?_
  rintro e w' ⟨rfl, rfl⟩
  go_wp2_with fail
  refine (size_any b _ hb hb').mono ?_
  rintro e w' ⟨rfl, rfl⟩
  go_wp2_with fail
  refine (mul64_any _ _ _ x0 (by omega) y0 (by omega)).mono ?_
  rintro e w' ⟨rfl, rfl⟩
  go_wp2_with fail
  all_goals go_ret2
  · refine ⟨ret_two rfl (congrArg Value.bool ?_), rfl⟩
    have h1 : (!decide (a < 0) == decide (b < 0)) = true := by assumption
    have h2 : hiV (szV a) (szV b) = 0 := by assumption
    rw [← mul_fits_diff a b (by simpa using h1), h2]; rfl
  · refine ⟨ret_two rfl (congrArg Value.bool ?_), rfl⟩
    have h1 : (!decide (a < 0) == decide (b < 0)) = true := by assumption
    have h2 : ¬hiV (szV a) (szV b) = 0 := by assumption
    rw [← mul_fits_diff a b (by simpa using h1)]; simp [h2]
  · refine ⟨ret_two rfl (congrArg Value.bool ?_), rfl⟩
    have h1 : (!decide (a < 0) == decide (b < 0)) = false := by assumption
    have h2 : hiV (szV a) (szV b) = 0 := by assumption
    rw [← mul_fits_same a b (by simpa using h1), h2]; rfl
  · refine ⟨ret_two rfl (congrArg Value.bool ?_), rfl⟩
    have h1 : (!decide (a < 0) == decide (b < 0)) = false := by assumption
    have h2 : ¬hiV (szV a) (szV b) = 0 := by assumption
    rw [← mul_fits_same a b (by simpa using h1)]; simp [h2]

theorem fold_add (b off cap : Nat) (zs : List Int) (out : Int) (w : World) (hbig : zs.length ≤ 9223372036854775807) (ho : fits out = true)
    (hz : ∀ j, j < zs.length → fits (zs[j]?.getD 0) = true)
    (hc : ∀ j, j < zs.length → w.cell? ⟨b, off + j, none⟩ = some (.int .i64 (zs[j]?.getD 0))) :
    Calls Try.prog 31 #[.slice (some ⟨b, off, none⟩) zs.length cap, .int .i64 out, .func (.func 33) #[] #[]] w fun e w' =>
      e = .returned (.tuple #[.int .i64 (oN (foldV (· + ·) zs out)), .int .i64 (oE (foldV (· + ·) zs out))]) ∧ w = w' := by
  have HC := Lib.hid hc; clear hc
  have HZ := Lib.hid hz; clear hz
  have HO := Lib.hid ho; clear ho
  go_enter Try.func31, Try.ntmps31
  go_wp2
  go_loop [1, 14] (fun o i => ∃ (k : Nat) (s : Int), k ≤ zs.length ∧ i = .int .i64 k ∧ o = .int .i64 s ∧ Hid (fits s = true) ∧ Hid (foldV (· + ·) (zs.drop k) s = foldV (· + ·) zs out)) (fun _ i => zs.length - (intOf i).toNat)
  case atStart => exact ⟨0, out, Nat.zero_le _, rfl, rfl, Lib.hid HO.out, Lib.hid rfl⟩
  case round =>
    obtain ⟨k, s, hk, rfl, rfl, hs, hr⟩ := hrel
    have hcell : k < zs.length → w.cell? ⟨b, off + k, none⟩ = some (.int .i64 (zs[k]?.getD 0)) := fun _ => HC.out k (by omega)
    have hfit : k < zs.length → fits (zs[k]?.getD 0) = true := fun _ => HZ.out k (by omega)
    obtain ⟨x, hx⟩ : ∃ x, x = zs[k]?.getD 0 := ⟨_, rfl⟩
    rw [← hx] at hcell hfit
    have HX := Lib.hid hx; clear hx
    have HF := Lib.hid hfit; clear hfit
    obtain ⟨s1, s2⟩ := (fits_iff s).1 hs.out
    by_cases hlt : k < zs.length
    · have hd := drop_cons zs k hlt
      rw [← HX.out] at hd
      have HD := Lib.hid hd; clear hd
      obtain ⟨x1, x2⟩ := (fits_iff x).1 (HF.out hlt)
      by_cases hf : fits (s + x) = true
      · have HW := Lib.hid (wrap64_fits _ hf)
        go_wp2_with fail
        refine (add_any s x _ s1 s2 x1 x2).mono ?_
        rintro e w' ⟨rfl, rfl⟩
        rw [HW.out]
        go_wp2_with fail
        go_round
        case rel => exact ⟨k + 1, s + x, by omega, by go_num, rfl, Lib.hid (by assumption), Lib.hid (by rw [← hr.out, HD.out, foldV_cons _ _ _ _ (by assumption)])⟩
        case measure => simp [intOf]; omega
      · have hf : fits (s + x) = false := by simpa using hf
        go_wp2_with fail
        refine (add_any s x _ s1 s2 x1 x2).mono ?_
        rintro e w' ⟨rfl, rfl⟩
        go_wp2_with fail
        go_ret2
        have hv : foldV (· + ·) zs out = none := by rw [← hr.out, HD.out, foldV_none _ _ _ _ (by assumption)]
        exact ⟨by rw [hv]; rfl, rfl⟩
    · have : k = zs.length := by omega
      subst this
      go_wp2_with fail
      go_ret2
      have hv : foldV (· + ·) zs out = some s := by rw [← hr.out]; simp [foldV]
      exact ⟨by rw [hv]; rfl, rfl⟩
theorem fold_add_nil (a : Option Addr) (cap : Nat) (out : Int) (w : World) :
    Calls Try.prog 31 #[.slice a 0 cap, .int .i64 out, .func (.func 33) #[] #[]] w fun e w' =>
      e = .returned (.tuple #[.int .i64 out, .int .i64 0]) ∧ w = w' := by
  go_enter Try.func31, Try.ntmps31
  go_wp2
  go_rounds 1
  go_ret2
  exact ⟨rfl, rfl⟩
theorem Add_any (b off cap : Nat) (zs : List Int) (w : World) (hbig : zs.length ≤ 9223372036854775807)
    (hz : ∀ j, j < zs.length → fits (zs[j]?.getD 0) = true)
    (hc : ∀ j, j < zs.length → w.cell? ⟨b, off + j, none⟩ = some (.int .i64 (zs[j]?.getD 0))) :
    Calls Try.prog 28 #[.slice (some ⟨b, off, none⟩) zs.length cap] w fun e w' =>
      e = .returned (.tuple #[.int .i64 (oN (foldV (· + ·) zs 0)), .int .i64 (oE (foldV (· + ·) zs 0))]) ∧ w = w' := by
  have HC := Lib.hid hc; clear hc
  have HZ := Lib.hid hz; clear hz
  go_enter Try.func28, Try.ntmps28
  go_wp2_with fail
  refine (fold_add b off cap zs 0 _ hbig (by decide) HZ.out HC.out).mono ?_
  rintro e w' ⟨rfl, rfl⟩
  go_wp2_with fail
  go_ret2
  exact ⟨rfl, rfl⟩
theorem Add_nil (a : Option Addr) (cap : Nat) (w : World) : Calls Try.prog 28 #[.slice a 0 cap] w fun e w' => e = .returned (.tuple #[.int .i64 0, .int .i64 0]) ∧ w = w' := by
  go_enter Try.func28, Try.ntmps28
  go_wp2_with fail
  refine (fold_add_nil _ _ 0 _).mono ?_
  rintro e w' ⟨rfl, rfl⟩
  go_wp2_with fail
  go_ret2
  exact ⟨rfl, rfl⟩

theorem fold_mul (b off cap : Nat) (zs : List Int) (out : Int) (w : World) (hbig : zs.length ≤ 9223372036854775807) (ho : fits out = true)
    (hz : ∀ j, j < zs.length → fits (zs[j]?.getD 0) = true)
    (hc : ∀ j, j < zs.length → w.cell? ⟨b, off + j, none⟩ = some (.int .i64 (zs[j]?.getD 0))) :
    Calls Try.prog 31 #[.slice (some ⟨b, off, none⟩) zs.length cap, .int .i64 out, .func (.func 32) #[] #[]] w fun e w' =>
      e = .returned (.tuple #[.int .i64 (oN (foldV (· * ·) zs out)), .int .i64 (oE (foldV (· * ·) zs out))]) ∧ w = w' := by
  have HC := Lib.hid hc; clear hc
  have HZ := Lib.hid hz; clear hz
  have HO := Lib.hid ho; clear ho
  go_enter Try.func31, Try.ntmps31
  go_wp2
  go_loop [1, 14] (fun o i => ∃ (k : Nat) (s : Int), k ≤ zs.length ∧ i = .int .i64 k ∧ o = .int .i64 s ∧ Hid (fits s = true) ∧ Hid (foldV (· * ·) (zs.drop k) s = foldV (· * ·) zs out)) (fun _ i => zs.length - (intOf i).toNat)
  case atStart => exact ⟨0, out, Nat.zero_le _, rfl, rfl, Lib.hid HO.out, Lib.hid rfl⟩
  case round =>
    obtain ⟨k, s, hk, rfl, rfl, hs, hr⟩ := hrel
    have hcell : k < zs.length → w.cell? ⟨b, off + k, none⟩ = some (.int .i64 (zs[k]?.getD 0)) := fun _ => HC.out k (by omega)
    have hfit : k < zs.length → fits (zs[k]?.getD 0) = true := fun _ => HZ.out k (by omega)
    obtain ⟨x, hx⟩ : ∃ x, x = zs[k]?.getD 0 := ⟨_, rfl⟩
    rw [← hx] at hcell hfit
    have HX := Lib.hid hx; clear hx
    have HF := Lib.hid hfit; clear hfit
    obtain ⟨s1, s2⟩ := (fits_iff s).1 hs.out
    by_cases hlt : k < zs.length
    · have hd := drop_cons zs k hlt
      rw [← HX.out] at hd
      have HD := Lib.hid hd; clear hd
      obtain ⟨x1, x2⟩ := (fits_iff x).1 (HF.out hlt)
      by_cases hf : fits (s * x) = true
      · have HW := Lib.hid (wrap64_fits _ hf)
        go_wp2_with fail
        refine (mul_any s x _ s1 s2 x1 x2).mono ?_
        rintro e w' ⟨rfl, rfl⟩
        rw [HW.out]
        go_wp2_with fail
        go_round
        case rel => exact ⟨k + 1, s * x, by omega, by go_num, rfl, Lib.hid (by assumption), Lib.hid (by rw [← hr.out, HD.out, foldV_cons _ _ _ _ (by assumption)])⟩
        case measure => simp [intOf]; omega
      · have hf : fits (s * x) = false := by simpa using hf
        go_wp2_with fail
        refine (mul_any s x _ s1 s2 x1 x2).mono ?_
        rintro e w' ⟨rfl, rfl⟩
        go_wp2_with fail
        go_ret2
        have hv : foldV (· * ·) zs out = none := by rw [← hr.out, HD.out, foldV_none _ _ _ _ (by assumption)]
        exact ⟨by rw [hv]; rfl, rfl⟩
    · have : k = zs.length := by omega
      subst this
      go_wp2_with fail
      go_ret2
      have hv : foldV (· * ·) zs out = some s := by rw [← hr.out]; simp [foldV]
      exact ⟨by rw [hv]; rfl, rfl⟩
theorem fold_mul_nil (a : Option Addr) (cap : Nat) (out : Int) (w : World) :
    Calls Try.prog 31 #[.slice a 0 cap, .int .i64 out, .func (.func 32) #[] #[]] w fun e w' =>
      e = .returned (.tuple #[.int .i64 out, .int .i64 0]) ∧ w = w' := by
  go_enter Try.func31, Try.ntmps31
  go_wp2
  go_rounds 1
  go_ret2
  exact ⟨rfl, rfl⟩
theorem Mul_any (b off cap : Nat) (zs : List Int) (w : World) (hbig : zs.length ≤ 9223372036854775807)
    (hz : ∀ j, j < zs.length → fits (zs[j]?.getD 0) = true)
    (hc : ∀ j, j < zs.length → w.cell? ⟨b, off + j, none⟩ = some (.int .i64 (zs[j]?.getD 0))) :
    Calls Try.prog 27 #[.slice (some ⟨b, off, none⟩) zs.length cap] w fun e w' =>
      e = .returned (.tuple #[.int .i64 (oN (foldV (· * ·) zs 1)), .int .i64 (oE (foldV (· * ·) zs 1))]) ∧ w = w' := by
  have HC := Lib.hid hc; clear hc
  have HZ := Lib.hid hz; clear hz
  go_enter Try.func27, Try.ntmps27
  go_wp2_with fail
  refine (fold_mul b off cap zs 1 _ hbig (by decide) HZ.out HC.out).mono ?_
  rintro e w' ⟨rfl, rfl⟩
  go_wp2_with fail
  go_ret2
  exact ⟨rfl, rfl⟩
theorem Mul_nil (a : Option Addr) (cap : Nat) (w : World) : Calls Try.prog 27 #[.slice a 0 cap] w fun e w' => e = .returned (.tuple #[.int .i64 1, .int .i64 0]) ∧ w = w' := by
  go_enter Try.func27, Try.ntmps27
  go_wp2_with fail
  refine (fold_mul_nil _ _ 1 _).mono ?_
  rintro e w' ⟨rfl, rfl⟩
  go_wp2_with fail
  go_ret2
  exact ⟨rfl, rfl⟩
theorem Add_two_ok (a b : Int) (w : World) (B : Nat) (hB : B = w.heap.size) (ha : fits a = true) (hb : fits b = true) (h : fits (a + b) = true) :
    Calls Try.prog 28 #[.slice (some ⟨B, 0, none⟩) 2 2] (w.alloc (.cells #[.int .i64 a, .int .i64 b] 2)) fun e w' =>
      e = .returned (.tuple #[.int .i64 (a + b), .int .i64 0]) ∧ w.alloc (.cells #[.int .i64 a, .int .i64 b] 2) = w' := by
  subst hB
  refine (Add_any w.heap.size 0 2 [a, b] _ (by simp) (fits_two a b ha hb) (cells_two64 w a b _)).mono ?_
  rintro e w' ⟨rfl, rfl⟩
  rw [fold_add2_ok a b ha h]
  exact ⟨rfl, rfl⟩
theorem Add_two_none (a b : Int) (w : World) (B : Nat) (hB : B = w.heap.size) (ha : fits a = true) (hb : fits b = true) (h : fits (a + b) = false) :
    Calls Try.prog 28 #[.slice (some ⟨B, 0, none⟩) 2 2] (w.alloc (.cells #[.int .i64 a, .int .i64 b] 2)) fun e w' =>
      e = .returned (.tuple #[.int .i64 0, .int .i64 9]) ∧ w.alloc (.cells #[.int .i64 a, .int .i64 b] 2) = w' := by
  subst hB
  refine (Add_any w.heap.size 0 2 [a, b] _ (by simp) (fits_two a b ha hb) (cells_two64 w a b _)).mono ?_
  rintro e w' ⟨rfl, rfl⟩
  rw [fold_add2_none a b ha h]
  exact ⟨rfl, rfl⟩
theorem Mul_two_ok (a b : Int) (w : World) (B : Nat) (hB : B = w.heap.size) (ha : fits a = true) (hb : fits b = true) (h : fits (a * b) = true) :
    Calls Try.prog 27 #[.slice (some ⟨B, 0, none⟩) 2 2] (w.alloc (.cells #[.int .i64 a, .int .i64 b] 2)) fun e w' =>
      e = .returned (.tuple #[.int .i64 (a * b), .int .i64 0]) ∧ w.alloc (.cells #[.int .i64 a, .int .i64 b] 2) = w' := by
  subst hB
  refine (Mul_any w.heap.size 0 2 [a, b] _ (by simp) (fits_two a b ha hb) (cells_two64 w a b _)).mono ?_
  rintro e w' ⟨rfl, rfl⟩
  rw [fold_mul2_ok a b ha h]
  exact ⟨rfl, rfl⟩
theorem Mul_two_none (a b : Int) (w : World) (B : Nat) (hB : B = w.heap.size) (ha : fits a = true) (hb : fits b = true) (h : fits (a * b) = false) :
    Calls Try.prog 27 #[.slice (some ⟨B, 0, none⟩) 2 2] (w.alloc (.cells #[.int .i64 a, .int .i64 b] 2)) fun e w' =>
      e = .returned (.tuple #[.int .i64 0, .int .i64 9]) ∧ w.alloc (.cells #[.int .i64 a, .int .i64 b] 2) = w' := by
  subst hB
  refine (Mul_any w.heap.size 0 2 [a, b] _ (by simp) (fits_two a b ha hb) (cells_two64 w a b _)).mono ?_
  rintro e w' ⟨rfl, rfl⟩
  rw [fold_mul2_none a b ha h]
  exact ⟨rfl, rfl⟩
theorem Add_own (v : Value) (zs : List Int) (w : World) (B : Nat) (T : TypeId) (hbig : zs.length ≤ 9223372036854775807) (hz : ∀ j, j < zs.length → fits (zs[j]?.getD 0) = true) (h : w.ownsRow B T 1 v zs.length (zs.map (Value.int .i64))) :
    Calls Try.prog 28 #[v] w fun e w' => e = .returned (.tuple #[.int .i64 (oN (foldV (· + ·) zs 0)), .int .i64 (oE (foldV (· + ·) zs 0))]) ∧ w = w' := by
  obtain ⟨_, (⟨rfl, h0⟩ | ⟨g, cap, _, rfl, _⟩)⟩ := id h
  · have : zs = [] := List.length_eq_zero_iff.1 h0
    subst this
    exact Add_nil _ _ w
  · refine Add_any g 0 cap zs w hbig hz fun j hj => ?_
    rw [Nat.zero_add, h.cellAt j (by omega)]
    simp [hj]
theorem Mul_own (v : Value) (zs : List Int) (w : World) (B : Nat) (T : TypeId) (hbig : zs.length ≤ 9223372036854775807) (hz : ∀ j, j < zs.length → fits (zs[j]?.getD 0) = true) (h : w.ownsRow B T 1 v zs.length (zs.map (Value.int .i64))) :
    Calls Try.prog 27 #[v] w fun e w' => e = .returned (.tuple #[.int .i64 (oN (foldV (· * ·) zs 1)), .int .i64 (oE (foldV (· * ·) zs 1))]) ∧ w = w' := by
  obtain ⟨_, (⟨rfl, h0⟩ | ⟨g, cap, _, rfl, _⟩)⟩ := id h
  · have : zs = [] := List.length_eq_zero_iff.1 h0
    subst this
    exact Mul_nil _ _ w
  · refine Mul_any g 0 cap zs w hbig hz fun j hj => ?_
    rw [Nat.zero_add, h.cellAt j (by omega)]
    simp [hj]
end Go.Proofs.Ythfffgdelllcdaa
