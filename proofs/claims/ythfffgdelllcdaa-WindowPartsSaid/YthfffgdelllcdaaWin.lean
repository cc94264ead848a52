/- Contracts of package window's shapes over this seat's program: held, down, First, last, Many, Needed, and the law's own shape and held. Every shape that may be; every time. -/
import Derived.Test.YthfffgdelllcdaaVal
import Derived.Test.YthfffgdelllcdaaWinPlain
import Derived.Test.YthfffgdelllcdaaMem
import Derived.Deep.QuietTactic
import Derived.BigQuiet
import Derived.Deep.RegionHeld3
import Derived.Below
namespace Go.Proofs.Ythfffgdelllcdaa
open Go.RowKit
theorem wheld_any (t : Int) (w : World) : Calls Try.prog 25 #[.int .i64 t] w fun e w' => e = .returned (.int .i64 (heldV t)) ∧ w' = w := by
  by_cases h1 : t < -2305843009213693952
  · go_enter Try.func25, Try.ntmps25
    go_wp2
    go_ret
    exact ⟨ret_one (int_eq (by unfold heldV; rw [if_pos h1])), rfl⟩
  · by_cases h2 : t > 2305843009213693952
    · go_enter Try.func25, Try.ntmps25
      go_wp2
      go_ret
      exact ⟨ret_one (int_eq (by unfold heldV; rw [if_neg (by omega), if_pos h2])), rfl⟩
    · go_enter Try.func25, Try.ntmps25
      go_wp2
      go_ret
      exact ⟨ret_one (int_eq (by unfold heldV; rw [if_neg (by omega), if_neg (by omega)])), rfl⟩
theorem lheld_any (t : Int) (w : World) : Calls Try.prog 12 #[.int .i64 t] w fun e w' => e = .returned (.int .i64 (heldV t)) ∧ w = w' := by
  by_cases h1 : t < -2305843009213693952
  · go_enter Try.func12, Try.ntmps12
    go_wp2
    go_ret
    exact ⟨ret_one (int_eq (by unfold heldV; rw [if_pos h1])), rfl⟩
  · by_cases h2 : t > 2305843009213693952
    · go_enter Try.func12, Try.ntmps12
      go_wp2
      go_ret
      exact ⟨ret_one (int_eq (by unfold heldV; rw [if_neg (by omega), if_pos h2])), rfl⟩
    · go_enter Try.func12, Try.ntmps12
      go_wp2
      go_ret
      exact ⟨ret_one (int_eq (by unfold heldV; rw [if_neg (by omega), if_neg (by omega)])), rfl⟩
theorem down_any (a s : Int) (w : World) (ha : -4611686018427387904 ≤ a) (ha' : a ≤ 4611686018427387904) (hs : 1 ≤ s) (hs' : s ≤ 1099511627776) :
    Calls Try.prog 24 #[.int .i64 a, .int .i64 s] w fun e w' => e = .returned (.int .i64 (a / s)) ∧ w' = w := by
  go_enter Try.func24, Try.ntmps24
  go_wp2_with (go_at_call 30; refine (floor_ok a s _ (by omega) (by omega) (by omega) (by omega) (by omega) (by omega)).mono ?_; rintro e w' ⟨rfl, rfl⟩)
  go_ret
  exact ⟨ret_one (int_eq (fdiv_div a s hs)), rfl⟩
theorem first_any (W S B t : Int) (w : World) (h : Sh W S B) :
    Calls Try.prog 13 #[.agg #[.int .i64 W, .int .i64 S, .int .i64 B], .int .i64 t] w fun e w' => e = .returned (.int .i64 (firstV W S B t)) ∧ Below w.heap.size w w' := by
  obtain ⟨h1, h2, h3, h4, h5, h6⟩ := h
  obtain ⟨a1, a2⟩ := held_bd t
  obtain ⟨b1, b2⟩ := div_bd (heldV t - B - W) S 2305847407260205055 h3 (by omega) (by omega) (by omega)
  by_cases hq : (heldV t - B - W) / S + 1 < 0
  · go_enter Try.func13, Try.ntmps13
    go_wp2_with fail
    go_quiet ((first | (go_at_call 25; exact Calls.quiet_of_same (wheld_any _ _)) | (go_at_call 24; exact Calls.quiet_of_same (down_any _ _ _ (by omega) (by omega) (by omega) (by omega)))))
    go_wp2
    go_ret
    exact ⟨ret_one (int_eq (by unfold firstV; rw [if_pos hq])), below_drewN ((Below.refl _ _).alloc (Nat.le_refl _) _) _⟩
  · go_enter Try.func13, Try.ntmps13
    go_wp2_with fail
    go_quiet ((first | (go_at_call 25; exact Calls.quiet_of_same (wheld_any _ _)) | (go_at_call 24; exact Calls.quiet_of_same (down_any _ _ _ (by omega) (by omega) (by omega) (by omega)))))
    go_wp2
    go_ret
    exact ⟨ret_one (int_eq (by unfold firstV; rw [if_neg (by omega)])), below_drewN ((Below.refl _ _).alloc (Nat.le_refl _) _) _⟩
theorem last_any (W S B t : Int) (w : World) (h : Sh W S B) :
    Calls Try.prog 26 #[.agg #[.int .i64 W, .int .i64 S, .int .i64 B], .int .i64 t] w fun e w' => e = .returned (.int .i64 (lastV S B t)) ∧ Below w.heap.size w w' := by
  obtain ⟨h1, h2, h3, h4, h5, h6⟩ := h
  obtain ⟨a1, a2⟩ := held_bd t
  obtain ⟨b1, b2⟩ := div_bd (heldV t - B) S 2305847407260205055 h3 (by omega) (by omega) (by omega)
  by_cases hq : (heldV t - B) / S < -1
  · go_enter Try.func26, Try.ntmps26
    go_wp2_with fail
    go_quiet ((first | (go_at_call 25; exact Calls.quiet_of_same (wheld_any _ _)) | (go_at_call 24; exact Calls.quiet_of_same (down_any _ _ _ (by omega) (by omega) (by omega) (by omega)))))
    go_wp2
    go_ret
    exact ⟨ret_one (int_eq (by unfold lastV; rw [if_pos hq])), below_drewN ((Below.refl _ _).alloc (Nat.le_refl _) _) _⟩
  · go_enter Try.func26, Try.ntmps26
    go_wp2_with fail
    go_quiet ((first | (go_at_call 25; exact Calls.quiet_of_same (wheld_any _ _)) | (go_at_call 24; exact Calls.quiet_of_same (down_any _ _ _ (by omega) (by omega) (by omega) (by omega)))))
    go_wp2
    go_ret
    exact ⟨ret_one (int_eq (by unfold lastV; rw [if_neg (by omega)])), below_drewN ((Below.refl _ _).alloc (Nat.le_refl _) _) _⟩
/-- a boxed shape stays as it is while a callee makes memory of its own -/
theorem kept_step {w wr wr' : World} {W S B : Int} {b : Nat} (h : wr.cell? ⟨b, 0, none⟩ = some (.int .i64 W) ∧ wr.cell? ⟨b, 1, none⟩ = some (.int .i64 S) ∧ wr.cell? ⟨b, 2, none⟩ = some (.int .i64 B) ∧ Below w.heap.size w wr)
    (hb : Below wr.heap.size wr wr') :
    wr'.cell? ⟨b, 0, none⟩ = some (.int .i64 W) ∧ wr'.cell? ⟨b, 1, none⟩ = some (.int .i64 S) ∧ wr'.cell? ⟨b, 2, none⟩ = some (.int .i64 B) ∧ Below w.heap.size w wr' := by
  obtain ⟨h1, h2, h3, h4⟩ := h
  exact ⟨(hb.cell (block_lt_of_cell h1)).trans h1, (hb.cell (block_lt_of_cell h2)).trans h2, (hb.cell (block_lt_of_cell h3)).trans h3, h4.trans (hb.mono h4.size)⟩
theorem many_any (W S B t : Int) (w : World) (h : Sh W S B) :
    Calls Try.prog 16 #[.agg #[.int .i64 W, .int .i64 S, .int .i64 B], .int .i64 t] w fun e w' => e = .returned (.int .i64 (manyV W S B t)) ∧ Below w.heap.size w w' := by
  have h' := h
  obtain ⟨h1, h2, h3, h4, h5, h6⟩ := h'
  obtain ⟨f1, f2⟩ := first_bd h t
  obtain ⟨l1, l2⟩ := last_bd h3 h5 h6 t
  clear h1 h2 h3 h4 h5 h6
  go_enter Try.func16, Try.ntmps16
  go_wp2_with fail
  go_region_held3 (fun w' => w'.cell? ⟨w.heap.size, 0, none⟩ = some (.int .i64 W) ∧ w'.cell? ⟨w.heap.size, 1, none⟩ = some (.int .i64 S) ∧ w'.cell? ⟨w.heap.size, 2, none⟩ = some (.int .i64 B) ∧ Below w.heap.size w w') (first | assumption | exact kept_step (by assumption) hb | exact kept_step ⟨‹_›, ‹_›, ‹_›, ‹_›⟩ hb |  exact ⟨‹_›, ‹_›, ‹_›, ‹_›⟩ | (refine ⟨?_, ?_, ?_, ?_⟩ <;> (first | assumption | (simp [go_sem]; done) | go_grown)))  (first
      | (go_at_call 26; refine (last_any W S B t _ h).mono ?_; rintro e w' ⟨rfl, hb⟩)
      | (go_at_call 13; refine (first_any W S B t _ h).mono ?_; rintro e w' ⟨rfl, hb⟩))
  have e1 := IntWalk.i64_in (lastV S B t - firstV W S B t) ⟨by omega, by omega⟩
  have e2 := IntWalk.i64_in (lastV S B t - firstV W S B t + 1) ⟨by omega, by omega⟩
  rw [e1, e2, show (if lastV S B t - firstV W S B t + 1 < 0 then 0 else lastV S B t - firstV W S B t + 1) = manyV W S B t from rfl]
  clear e1 e2
  go_wp2
  go_ret
  exact ⟨rfl, by obtain ⟨_, _, _, hh⟩ := ‹_ ∧ _ ∧ _ ∧ Below w.heap.size w w'›; exact hh⟩
theorem needed_any (W S B t : Int) (w : World) (h : Sh W S B) :
    Calls Try.prog 14 #[.agg #[.int .i64 W, .int .i64 S, .int .i64 B], .int .i64 t] w fun e w' => e = .returned (.int .i64 (B + firstV W S B t * S)) ∧ Below w.heap.size w w' := by
  have h' := h
  obtain ⟨h1, h2, h3, h4, h5, h6⟩ := h'
  obtain ⟨f1, f2⟩ := first_bd h t
  obtain ⟨m1, m2⟩ := first_mul h t
  go_enter Try.func14, Try.ntmps14
  go_wp2_with fail
  go_region_held3 (fun w' => w'.cell? ⟨w.heap.size, 0, none⟩ = some (.int .i64 W) ∧ w'.cell? ⟨w.heap.size, 1, none⟩ = some (.int .i64 S) ∧ w'.cell? ⟨w.heap.size, 2, none⟩ = some (.int .i64 B) ∧ Below w.heap.size w w') (first | assumption | exact kept_step (by assumption) hb | exact kept_step ⟨‹_›, ‹_›, ‹_›, ‹_›⟩ hb |  exact ⟨‹_›, ‹_›, ‹_›, ‹_›⟩ | (refine ⟨?_, ?_, ?_, ?_⟩ <;> (first | assumption | (simp [go_sem]; done) | go_grown)))  (first
      | (go_at_call 13; refine (first_any W S B t _ h).mono ?_; rintro e w' ⟨rfl, hb⟩))
  go_wp2
  go_ret
  refine ⟨ret_one (int_eq ?_), by obtain ⟨_, _, _, hh⟩ := ‹_ ∧ _ ∧ _ ∧ Below w.heap.size w w'›; exact hh⟩
  rw [IntWalk.i64_in (firstV W S B t * S) ⟨by omega, by omega⟩, IntWalk.i64_in _ ⟨by omega, by omega⟩]
/-- what the law's shape comes to: one that may be -/
def ShapeRes (w : World) (e : Ending) (w' : World) : Prop := ∃ W S B : Int, Sh W S B ∧ e = .returned (.agg #[.int .i64 W, .int .i64 S, .int .i64 B]) ∧ Below w.heap.size w w'
theorem shape_any (a b c : Int) (w : World) : Calls Try.prog 11 #[.agg #[.int .i64 a, .int .i64 b, .int .i64 c]] w (ShapeRes w) := by
  go_enter Try.func11, Try.ntmps11
  go_wp2
  exact bodyPost_ret (v := .agg #[.int .i64 (wrap64 (1 + wrap64 ((IntKind.u64.wrap a).tmod 1099511627776))), .int .i64 (wrap64 (1 + wrap64 ((IntKind.u64.wrap b).tmod 1099511627776))), .int .i64 (wrap64 (wrap64 ((IntKind.u64.wrap c).tmod 2199023255553) - 1099511627776))])
    (by simp [results, Try.results11, go_sem]) rfl ⟨_, _, _, ⟨(shp1 a).1, (shp1 a).2, (shp1 b).1, (shp1 b).2, (shp2 c).1, (shp2 c).2⟩, rfl, ((Below.refl _ _).alloc (Nat.le_refl _) _).alloc (by simp) _⟩
end Go.Proofs.Ythfffgdelllcdaa
