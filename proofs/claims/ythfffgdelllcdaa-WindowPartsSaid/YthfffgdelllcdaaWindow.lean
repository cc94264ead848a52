/- The contract of package window's Window over this seat's program: the window of a number, or that there is none. Every shape that may be; every number. -/
import Derived.Test.YthfffgdelllcdaaWin
import Derived.Test.YthfffgdelllcdaaSum
namespace Go.Proofs.Ythfffgdelllcdaa
open Go.RowKit
theorem zero_add' (B : Int) : (0 : Int) + B = B := by omega
theorem window_ok (W S B i : Int) (w : World) (h : Sh W S B) (i0 : 0 ≤ i) (i1 : i ≤ 9223372036854775807) (hi : i * S + B ≤ 2305843009213693952 - W) :
    Calls Try.prog 18 #[.agg #[.int .i64 W, .int .i64 S, .int .i64 B], .int .i64 i] w fun e w' =>
      e = .returned (.tuple #[.agg #[.int .i64 (i * S + B), .int .i64 (i * S + B + W)], .int .i64 0]) ∧ Below w.heap.size w w' := by
  obtain ⟨h1, h2, h3, h4, h5, h6⟩ := h
  have hm : 0 ≤ i * S := Int.mul_nonneg i0 (by omega)
  have fi : Hid (fits i = true) := Lib.hid ((fits_iff i).2 ⟨by omega, by omega⟩)
  have fS : Hid (fits S = true) := Lib.hid ((fits_iff S).2 ⟨by omega, by omega⟩)
  have fB : Hid (fits B = true) := Lib.hid ((fits_iff B).2 ⟨by omega, by omega⟩)
  have fm : Hid (fits (i * S) = true) := Lib.hid ((fits_iff _).2 ⟨by omega, by omega⟩)
  have fa : Hid (fits (i * S + B) = true) := Lib.hid ((fits_iff _).2 ⟨by omega, by omega⟩)
  go_enter Try.func18, Try.ntmps18
  go_wp2_with fail
  refine (Mul_two_ok i S _ _ (by simp) fi.out fS.out fm.out).mono ?_
  rintro e w' ⟨rfl, rfl⟩
  go_wp2_with fail
  refine (Add_two_ok (i * S) B _ _ (by simp) fm.out fB.out fa.out).mono ?_
  rintro e w' ⟨rfl, rfl⟩
  go_wp2_with fail
  exact bodyPost_ret (v := .tuple #[.agg #[.int .i64 (i * S + B), .int .i64 (i * S + B + W)], .int .i64 0]) (by simp [results, Try.results18, go_sem]) rfl ⟨rfl, by go_grown⟩
set_option maxHeartbeats 1000000 in
theorem window_err (W S B i : Int) (w : World) (h : Sh W S B) (i0 : -9223372036854775808 ≤ i) (i1 : i ≤ 9223372036854775807) (hi : i < 0 ∨ 2305843009213693952 - W < i * S + B) :
    Calls Try.prog 18 #[.agg #[.int .i64 W, .int .i64 S, .int .i64 B], .int .i64 i] w fun e w' =>
      e = .returned (.tuple #[.agg #[.int .i64 0, .int .i64 0], .int .i64 2]) ∧ Below w.heap.size w w' := by
  obtain ⟨h1, h2, h3, h4, h5, h6⟩ := h
  have fi : Hid (fits i = true) := Lib.hid ((fits_iff i).2 ⟨by omega, by omega⟩)
  have fS : Hid (fits S = true) := Lib.hid ((fits_iff S).2 ⟨by omega, by omega⟩)
  have fB : Hid (fits B = true) := Lib.hid ((fits_iff B).2 ⟨by omega, by omega⟩)
  by_cases hm : fits (i * S) = true
  · have fm := Lib.hid hm; clear hm
    obtain ⟨m1, m2⟩ := (fits_iff (i * S)).1 fm.out
    by_cases ha : fits (i * S + B) = true
    · have fa := Lib.hid ha; clear ha
      obtain ⟨a1, a2⟩ := (fits_iff (i * S + B)).1 fa.out
      by_cases hn : i < 0
      · go_enter Try.func18, Try.ntmps18
        go_wp2_with fail
        refine (Mul_two_ok i S _ _ (by simp) fi.out fS.out fm.out).mono ?_
        rintro e w' ⟨rfl, rfl⟩
        go_wp2_with fail
        refine (Add_two_ok (i * S) B _ _ (by simp) fm.out fB.out fa.out).mono ?_
        rintro e w' ⟨rfl, rfl⟩
        go_wp2_with fail
        exact bodyPost_ret (v := .tuple #[.agg #[.int .i64 0, .int .i64 0], .int .i64 2]) (by simp [results, Try.results18, go_sem]) rfl ⟨rfl, by go_grown⟩
      · have hi' : 2305843009213693952 - W < i * S + B := by omega
        clear hi
        go_enter Try.func18, Try.ntmps18
        go_wp2_with fail
        refine (Mul_two_ok i S _ _ (by simp) fi.out fS.out fm.out).mono ?_
        rintro e w' ⟨rfl, rfl⟩
        go_wp2_with fail
        refine (Add_two_ok (i * S) B _ _ (by simp) fm.out fB.out fa.out).mono ?_
        rintro e w' ⟨rfl, rfl⟩
        go_wp2_with fail
        exact bodyPost_ret (v := .tuple #[.agg #[.int .i64 0, .int .i64 0], .int .i64 2]) (by simp [results, Try.results18, go_sem]) rfl ⟨rfl, by go_grown⟩
    · have fa : Hid (fits (i * S + B) = false) := Lib.hid (by simpa using ha)
      clear ha hi
      go_enter Try.func18, Try.ntmps18
      go_wp2_with fail
      refine (Mul_two_ok i S _ _ (by simp) fi.out fS.out fm.out).mono ?_
      rintro e w' ⟨rfl, rfl⟩
      go_wp2_with fail
      refine (Add_two_none (i * S) B _ _ (by simp) fm.out fB.out fa.out).mono ?_
      rintro e w' ⟨rfl, rfl⟩
      go_wp2_with fail
      all_goals exact bodyPost_ret (v := .tuple #[.agg #[.int .i64 0, .int .i64 0], .int .i64 2]) (by simp [results, Try.results18, go_sem]) rfl ⟨rfl, by go_grown⟩
  · have fm : Hid (fits (i * S) = false) := Lib.hid (by simpa using hm)
    have f0 : Hid (fits 0 = true) := Lib.hid (by decide)
    have fa : Hid (fits (0 + B) = true) := Lib.hid (by rw [zero_add']; exact fB.out)
    clear hm hi
    go_enter Try.func18, Try.ntmps18
    go_wp2_with fail
    refine (Mul_two_none i S _ _ (by simp) fi.out fS.out fm.out).mono ?_
    rintro e w' ⟨rfl, rfl⟩
    go_wp2_with fail
    refine (Add_two_ok 0 B _ _ (by simp) f0.out fB.out fa.out).mono ?_
    rintro e w' ⟨rfl, rfl⟩
    go_wp2_with fail
    all_goals exact bodyPost_ret (v := .tuple #[.agg #[.int .i64 0, .int .i64 0], .int .i64 2]) (by simp [results, Try.results18, go_sem]) rfl ⟨rfl, by go_grown⟩
end Go.Proofs.Ythfffgdelllcdaa
