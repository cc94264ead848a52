/- The contract of package window's At over this seat's program: the windows that a time is in, one after the other; too many; a time beyond the ends. -/
import Derived.Test.YthfffgdelllcdaaWin
import Derived.Maps.AppendAt
namespace Go.Proofs.Ythfffgdelllcdaa
open Go.RowKit
theorem infoI : (Try.prog.info? 3).map (fun i => (i.zero, i.size, i.bytes)) = some (some (.int .i64 0), 1, 8) := by kernel_rfl
theorem at_range (W S B t : Int) (w : World) (ht : t < -1152921504606846976 ∨ 1152921504606846976 < t) :
    Calls Try.prog 15 #[.agg #[.int .i64 W, .int .i64 S, .int .i64 B], .int .i64 t] w fun e w' => e = .returned (.tuple #[.slice none 0 0, .int .i64 2]) ∧ Below w.heap.size w w' := by
  rcases ht with ht | ht
  · go_enter Try.func15, Try.ntmps15
    go_wp2
    go_ret2
    exact ⟨rfl, (Below.refl _ _).alloc (Nat.le_refl _) _⟩
  · go_enter Try.func15, Try.ntmps15
    go_wp2
    go_ret2
    exact ⟨rfl, (Below.refl _ _).alloc (Nat.le_refl _) _⟩
theorem boxed (w : World) (W S B : Int) (T : TypeId) : (w.alloc (.cells #[.int .i64 W, .int .i64 S, .int .i64 B] T)).cell? ⟨w.heap.size, 0, none⟩ = some (.int .i64 W) ∧ (w.alloc (.cells #[.int .i64 W, .int .i64 S, .int .i64 B] T)).cell? ⟨w.heap.size, 1, none⟩ = some (.int .i64 S) ∧
    (w.alloc (.cells #[.int .i64 W, .int .i64 S, .int .i64 B] T)).cell? ⟨w.heap.size, 2, none⟩ = some (.int .i64 B) ∧ Below w.heap.size w (w.alloc (.cells #[.int .i64 W, .int .i64 S, .int .i64 B] T)) :=
  ⟨by rw [World.cell?_alloc_mark]; rfl, by rw [World.cell?_alloc_mark]; rfl, by rw [World.cell?_alloc_mark]; rfl, (Below.refl _ _).alloc (Nat.le_refl _) _⟩
theorem at_too (W S B t : Int) (w : World) (h : Sh W S B) (h1 : -1152921504606846976 ≤ t) (h2 : t ≤ 1152921504606846976) (hm : 64 < manyV W S B t) :
    Calls Try.prog 15 #[.agg #[.int .i64 W, .int .i64 S, .int .i64 B], .int .i64 t] w fun e w' => e = .returned (.tuple #[.slice none 0 0, .int .i64 13]) ∧ Below w.heap.size w w' := by
  go_enter Try.func15, Try.ntmps15
  go_wp2_with fail
  refine (many_any W S B t _ h).mono ?_
  rintro e w' ⟨rfl, hb⟩
  have k := kept_step (boxed w W S B _) hb
  go_wp2_with fail
  go_ret2
  exact ⟨rfl, k.2.2.2⟩
/-- the list of the windows from F on, n of them -/
def runV (F : Int) (n : Nat) : List Value := (List.range n).map fun j : Nat => Value.int .i64 (F + j)
theorem runV_succ (F : Int) (n : Nat) : runV F (n + 1) = runV F n ++ [.int .i64 (F + n)] := by
  unfold runV; rw [List.range_succ, List.map_append]; rfl
def AtRes (w : World) (F : Int) (n : Nat) (e : Ending) (w' : World) : Prop :=
  ∃ v, e = .returned (.tuple #[v, .int .i64 0]) ∧ w'.ownsRow w.heap.size 3 1 v n (runV F n) ∧ Below w.heap.size w w'
set_option maxHeartbeats 800000 in
theorem at_ok (W S B t : Int) (w : World) (h : Sh W S B) (h1 : -1152921504606846976 ≤ t) (h2 : t ≤ 1152921504606846976) (hm : manyV W S B t ≤ 64) :
    Calls Try.prog 15 #[.agg #[.int .i64 W, .int .i64 S, .int .i64 B], .int .i64 t] w (AtRes w (firstV W S B t) (manyV W S B t).toNat) := by
  obtain ⟨i0, hi, hz0, hz1, hz2⟩ := info_parts infoI
  obtain ⟨f1, f2⟩ := first_bd h t
  obtain ⟨l1, l2⟩ := last_bd (S := S) (B := B) h.2.2.1 h.2.2.2.2.1 h.2.2.2.2.2 t
  have hL : lastV S B t < firstV W S B t + manyV W S B t ∧ (manyV W S B t = 0 ∨ manyV W S B t = lastV S B t - firstV W S B t + 1) ∧ 0 ≤ manyV W S B t := by
    unfold manyV; split <;> omega
  obtain ⟨L, hLd⟩ : ∃ L, L = lastV S B t := ⟨_, rfl⟩
  obtain ⟨F, hFd⟩ : ∃ F, F = firstV W S B t := ⟨_, rfl⟩
  obtain ⟨M, hMd⟩ : ∃ M, M = manyV W S B t := ⟨_, rfl⟩
  have HL := Lib.hid hLd; have HF := Lib.hid hFd; have HM := Lib.hid hMd
  rw [← hLd, ← hFd, ← hMd] at hL
  rw [← hMd] at hm ⊢
  rw [← hFd] at f1 f2 ⊢
  rw [← hLd] at l1 l2
  clear hLd hFd hMd
  obtain ⟨hL1, hL2, hL3⟩ := hL
  go_enter Try.func15, Try.ntmps15
  go_wp2_with fail
  refine (many_any W S B t _ h).mono ?_
  rintro e w1 ⟨rfl, hb1⟩
  rw [← HM.out]
  have k1 := kept_step (boxed w W S B _) hb1
  clear hb1
  obtain ⟨c1, c2, c3, c4⟩ := k1
  go_wp2_with fail
  refine (first_any W S B t _ h).mono ?_
  rintro e w2 ⟨rfl, hb2⟩
  rw [← HF.out]
  have k2 := kept_step ⟨c1, c2, c3, c4⟩ hb2
  clear hb2 c1 c2 c3 c4
  go_wp2_with fail
  have K2 := Lib.hid k2
  clear k2
  go_loopw [6, 7] (fun v i wr => ∃ k : Nat, (k : Int) ≤ M ∧ i = .int .i64 (F + k) ∧ wr.ownsRow (w.heap.size + 1) 3 1 v k (runV F k) ∧
      Hid (wr.cell? ⟨w.heap.size, 0, none⟩ = some (.int .i64 W) ∧ wr.cell? ⟨w.heap.size, 1, none⟩ = some (.int .i64 S) ∧ wr.cell? ⟨w.heap.size, 2, none⟩ = some (.int .i64 B) ∧ Below w.heap.size w wr))
    (fun _ i _ => (F + M - intOf i).toNat)
  case atStart => exact ⟨0, by omega, by simp, World.ownsRow_nil _ _ _ _, K2⟩
  case round =>
    obtain ⟨k, hk, rfl, hown, hkept⟩ := hrel
    obtain ⟨c1, c2, c3, c4⟩ := hkept.out
    clear hkept
    go_wp2_with fail
    refine (last_any W S B t _ h).mono ?_
    rintro e w3 ⟨rfl, hb3⟩
    rw [← HL.out]
    have k3 := kept_step ⟨c1, c2, c3, c4⟩ hb3
    have ho3 := ownsRow_below hown hb3
    clear hb3 c1 c2 c3 c4 hown
    have hs3 := k3.2.2.2.size
    have K3 := Lib.hid k3
    clear k3
    by_cases hlt : F + k ≤ L
    · obtain ⟨c1, c2, c3, c4⟩ := K3.out
      go_wp2_with (at_builtin; refine wpList_append_own _ rfl (.tmp 30) (.tmp 32) 29 rfl (w.heap.size + 1) 3 i0 (.int .i64 0) 1 8 Try.underlying29 hi hz0 hz1 hz2 rfl (by decide) _ _ _ rfl (ho3.alloc _) ⟨w3.heap.size, 0, none⟩ 1 1 [.int .i64 (F + k)] rfl rfl (cell_one_new _ _ _) (by simp [Value.oneCell']) (by unfold maxLen; omega) (by omega) (by simp; omega) ?_; intro v' w4 oa ga _)
      have hlt3 : w.heap.size < w3.heap.size := block_lt_of_cell c1
      have hb4 : Below (w.heap.size + 1) w3 w4 := ((Below.refl (w.heap.size + 1) w3).alloc (by omega) _).grown ga (by simp; omega) (fun g hg => (ho3.lt g hg).1)
      clear ga
      have k4 : Hid (w4.cell? ⟨w.heap.size, 0, none⟩ = some (.int .i64 W) ∧ w4.cell? ⟨w.heap.size, 1, none⟩ = some (.int .i64 S) ∧ w4.cell? ⟨w.heap.size, 2, none⟩ = some (.int .i64 B) ∧ Below w.heap.size w w4) :=
        Lib.hid ⟨(hb4.cell (by simp)).trans c1, (hb4.cell (by simp)).trans c2, (hb4.cell (by simp)).trans c3, c4.trans (hb4.mono (by omega))⟩
      go_roundw
      case rel => exact ⟨k + 1, by omega, by go_num, by rw [runV_succ]; exact oa, k4⟩
      case measure => simp [intOf]; omega
    · go_wp2_with fail
      go_ret2
      have : M = k := by omega
      refine ⟨u6, rfl, ?_, K3.out.2.2.2⟩
      rw [this]
      simpa using ownsRow_base ho3 (Nat.le_succ _)
end Go.Proofs.Ythfffgdelllcdaa
