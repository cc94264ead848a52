/- The law WindowParts answers true at every shape, time and while. No condition. -/
import Derived.Test.YthfffgdelllcdaaPtTold
import Derived.Laws.AppendOwnNone
namespace Go.Proofs.Ythfffgdelllcdaa
open Go.RowKit
theorem runV_add (F : Int) (m n : Nat) : runV F m ++ runV (F + m) n = runV F (m + n) := by
  unfold runV
  rw [List.range_add, List.map_append, List.map_map]
  congr 1
  refine List.map_congr_left fun j _ => ?_
  simp only [Function.comp]
  congr 1
  omega
theorem runV_len (F : Int) (n : Nat) : (runV F n).length = n := by simp [runV]
/-- of an owned row of at least one element: its address, its cells -/
theorem run_cells {w : World} {base : Nat} {F : Int} {a : Option Addr} {n cap : Nat} (ho : w.ownsRow base 3 1 (.slice a n cap) n (runV F n)) (hn : 0 < n) :
    ∃ g, a = some ⟨g, 0, none⟩ ∧ base ≤ g ∧ ∀ j, j < n → w.cell? ⟨g, j, none⟩ = some (.int .i64 (F + j)) := by
  rcases ho.2 with ⟨h1, _⟩ | ⟨g, c, cur, h1, h2, _⟩
  · injection h1 with _ h _; omega
  · injection h1 with h _ _
    subst h
    refine ⟨g, rfl, h2, fun j hj => ?_⟩
    rw [ho.cellAt j (by omega), runV_get F n j hj]
theorem run_one (F : Int) (n : Nat) : ∀ u ∈ runV F n, u.oneCell' = true := by
  intro u hu
  obtain ⟨j, _, rfl⟩ := List.mem_map.1 hu
  rfl
theorem own_other {w w' : World} {base : Nat} {e : TypeId} {s n : Nat} {v u : Value} {xs : List Value} (h : w.ownsRow base e s v n xs) (hg : w.grownBy w' u.ownBlock) (hne : ∀ k, u.ownBlock = some k → v.ownBlock ≠ some k) : w'.ownsRow base e s v n xs := by
  refine h.kept hg ?_
  cases hv : v.ownBlock with
  | none => exact .inl rfl
  | some g => exact .inr (fun e => by rw [hv] at hne; exact hne g e.symm rfl)
def TwoRows (F : Int) (N : Nat) (base : Nat) (W2 : World) (a1 a2 : Option Addr) (c1 c2 : Nat) (wx : World) : Prop :=
  wx.ownsRow base 3 1 (.slice a1 N c1) N (runV F N) ∧ wx.ownsRow base 3 1 (.slice a2 N c2) N (runV F N) ∧ Below W2.heap.size W2 wx
set_option maxRecDepth 100000 in
set_option maxHeartbeats 1600000 in
theorem parts_walk (x y z f p q : Int) (hx : 0 ≤ x) (hx' : x ≤ 255) (hy : 0 ≤ y) (hy' : y ≤ 255) (hz : 0 ≤ z) (hz' : z ≤ 255) (hf : -32768 ≤ f) (hf' : f ≤ 32767) (hp : 0 ≤ p) (hp' : p ≤ 255) (hq : 0 ≤ q) (hq' : q ≤ 255) (w : World) :
    Calls Try.prog 9 #[.agg #[.int .u8 x, .int .u8 y, .int .u8 z], .int .i16 f, .agg #[.int .u8 p, .int .u8 q]] w fun e w' => e = .returned (.bool true) ∧ Below w.heap.size w w' := by
  have hS : Sh (1 + x) (1 + y) (z - 100) := ⟨by omega, by omega, by omega, by omega, by omega, by omega⟩
  have ha := held_id f (by omega) (by omega)
  have hb := held_id (f + p) (by omega) (by omega)
  have hc := held_id (f + p + q) (by omega) (by omega)
  obtain ⟨F, hF⟩ : ∃ F, F = firstV (1 + x) (1 + y) (z - 100) f := ⟨_, rfl⟩
  obtain ⟨N2, hN2⟩ : ∃ N, N = cntV (1 + x) (1 + y) (z - 100) f (f + p) := ⟨_, rfl⟩
  obtain ⟨N3, hN3⟩ : ∃ N, N = cntV (1 + x) (1 + y) (z - 100) (f + p) (f + p + q) := ⟨_, rfl⟩
  have hN1 : N2 + N3 = cntV (1 + x) (1 + y) (z - 100) f (f + p + q) := by rw [hN2, hN3]; exact (cnt_split hS _ _ _ (by omega) (by omega)).symm
  have hF3 : F + N2 = firstV (1 + x) (1 + y) (z - 100) (f + p) := by rw [hF, hN2]; exact cnt_first hS _ _ (by omega)
  have hle := cnt_le hS f (f + p + q) (by omega)
  rw [← hN1] at hle
  have hN : N2 + N3 ≤ 600 := by omega
  have h01 : 0 = cntV (1 + x) (1 + y) (z - 100) (f + p) f := (cnt_none hS _ _ (by omega)).symm
  have h02 : 0 = cntV (1 + x) (1 + y) (z - 100) f f := (cnt_none hS _ _ (by omega)).symm
  have T1 := Lib.hid (fun bS w => told_any (1 + x) (1 + y) (z - 100) f (f + p + q) F (N2 + N3) bS w hS (by omega) (by omega) (by omega) (by omega) (by omega) (by omega) (by omega) (by omega) hN1 (by omega) hF)
  have T2 := Lib.hid (fun bS w => told_any (1 + x) (1 + y) (z - 100) f (f + p) F N2 bS w hS (by omega) (by omega) (by omega) (by omega) (by omega) (by omega) (by omega) (by omega) hN2 (by omega) hF)
  have T3 := Lib.hid (fun bS w => told_any (1 + x) (1 + y) (z - 100) (f + p) (f + p + q) (F + N2) N3 bS w hS (by omega) (by omega) (by omega) (by omega) (by omega) (by omega) (by omega) (by omega) hN3 (by omega) hF3)
  have T4 := Lib.hid (fun bS w => told_any (1 + x) (1 + y) (z - 100) (f + p) f (F + N2) 0 bS w hS (by omega) (by omega) (by omega) (by omega) (by omega) (by omega) (by omega) (by omega) h01 (by omega) hF3)
  have T5 := Lib.hid (fun bS w => told_any (1 + x) (1 + y) (z - 100) f f F 0 bS w hS (by omega) (by omega) (by omega) (by omega) (by omega) (by omega) (by omega) (by omega) h02 (by omega) hF)
  have hFb := first_bd hS f
  rw [← hF] at hFb
  obtain ⟨hF0, hF1⟩ := hFb
  clear hle h01 h02 hF3 hN1 hN2 hN3 hF ha hb hc hS
  obtain ⟨i0, hi, hz0, hz1, hz2⟩ := info_parts infoI
  go_enter Try.func9, Try.ntmps9
  go_wp2_with fail
  refine (awake_any _).mono ?_
  rintro e w1 ⟨rfl, hb1⟩
  have x0 : w1.cell? ⟨w.heap.size, 0, none⟩ = some (.int .u8 x) := cell_below (by simp [go_sem]) hb1
  have x1 : w1.cell? ⟨w.heap.size, 1, none⟩ = some (.int .u8 y) := cell_below (by simp [go_sem]) hb1
  have x2 : w1.cell? ⟨w.heap.size, 2, none⟩ = some (.int .u8 z) := cell_below (by simp [go_sem]) hb1
  have y0 : w1.cell? ⟨w.heap.size + 1, 0, none⟩ = some (.int .u8 p) := cell_below (by simp [go_sem]) hb1
  have y1 : w1.cell? ⟨w.heap.size + 1, 1, none⟩ = some (.int .u8 q) := cell_below (by simp [go_sem]) hb1
  have z1 : Below w.heap.size w w1 := (((Below.refl w.heap.size w).alloc (Nat.le_refl _) _).alloc (by simp) _).trans (hb1.mono (by simp; omega))
  have hlt1 : w.heap.size + 1 < w1.heap.size := block_lt_of_cell y0
  clear hb1
  go_upto_region 8 with fail
  obtain ⟨W2, hW2⟩ : ∃ W2, W2 = w1.alloc (.cells #[.int .i64 (1 + x), .int .i64 (1 + y), .int .i64 (z - 100)] 25) := ⟨_, rfl⟩
  have s0 : W2.cell? ⟨w1.heap.size, 0, none⟩ = some (.int .i64 (1 + x)) := by rw [hW2]; simp [go_sem]
  have s1 : W2.cell? ⟨w1.heap.size, 1, none⟩ = some (.int .i64 (1 + y)) := by rw [hW2]; simp [go_sem]
  have s2 : W2.cell? ⟨w1.heap.size, 2, none⟩ = some (.int .i64 (z - 100)) := by rw [hW2]; simp [go_sem]
  have hb : Below w1.heap.size w1 W2 := by rw [hW2]; go_grown
  replace z1 := z1.trans (hb.mono z1.size)
  rw [← hW2]
  clear hW2 hb x0 x1 x2 y0 y1 hlt1
  go_cut [12, 13] (fun s12 s13 wx => ∃ (a1 a2 : Option Addr) (c1 c2 : Nat), s12 = .slice a1 (N2 + N3) c1 ∧ s13 = .slice a2 (N2 + N3) c2 ∧ Hid (TwoRows F (N2 + N3) W2.heap.size W2 a1 a2 c1 c2 wx))
  case first =>
    go_wp2_with fail
    refine (T1.out _ _ s0 s1 s2).mono ?_
    rintro e w3 ⟨a1, c1, rfl, o1, _, hb⟩
    have HB := Lib.hid hb
    replace s0 := cell_below s0 hb
    replace s1 := cell_below s1 hb
    replace s2 := cell_below s2 hb
    replace o1 := Lib.hid o1
    clear hb
    go_wp2_with fail
    refine (T2.out _ _ s0 s1 s2).mono ?_
    rintro e w4 ⟨a2, c2, rfl, o2, _, hb⟩
    have hsz3 : W2.heap.size ≤ w3.heap.size := HB.out.size
    have hne : Hid (∀ k, (Value.slice a2 N2 c2).ownBlock = some k → (Value.slice a1 (N2 + N3) c1).ownBlock ≠ some k) := Lib.hid (fun k h1 h2 => by have := (o2.lt k h1).1; have := (o1.out.lt k h2).2; omega)
    replace HB := Lib.hid (HB.out.trans (hb.mono hsz3))
    replace s0 := cell_below s0 hb
    replace s1 := cell_below s1 hb
    replace s2 := cell_below s2 hb
    replace o1 := Lib.hid (ownsRow_below o1.out hb)
    replace o2 := Lib.hid (ownsRow_base o2 hsz3)
    clear hb
    go_wp2_with fail
    refine (T3.out _ _ s0 s1 s2).mono ?_
    rintro e w5 ⟨a3, c3, rfl, o3, h30, hb⟩
    have hsz4 : W2.heap.size ≤ w4.heap.size := HB.out.size
    replace HB := Lib.hid (HB.out.trans (hb.mono hsz4))
    have hsz5 : W2.heap.size ≤ w5.heap.size := HB.out.size
    replace o1 := Lib.hid (ownsRow_below o1.out hb)
    have q2 := ownsRow_below o2.out hb
    clear hb s0 s1 s2 o2
    rcases Nat.eq_zero_or_pos N3 with h3 | h3
    · obtain ⟨rfl, rfl⟩ := h30 h3
      subst h3
      have q2' := Lib.hid q2
      go_wp2_with (at_builtin; refine wpList_append_own_none rfl (.tmp 50) (.tmp 54) 29 rfl W2.heap.size 3 i0 1 Try.underlying29 hi _ _ _ rfl q2 rfl ?_)
      go_meet
      exact ⟨_, _, _, _, rfl, rfl, Lib.hid ⟨by simpa using o1.out, by simpa using q2'.out, HB.out⟩⟩
    · obtain ⟨g, rfl, hg, hcs⟩ := run_cells o3 h3
      have HC := Lib.hid (o3.cells (g := g) rfl)
      have HO1 := Lib.hid (fun k => hne.out k)
      clear hcs h30 o3
      go_wp2_with (at_builtin; refine wpList_append_own _ rfl (.tmp 50) (.tmp 54) 29 rfl W2.heap.size 3 i0 (.int .i64 0) 1 8 Try.underlying29 hi hz0 hz1 hz2 rfl (by decide) _ _ _ rfl q2 ⟨g, 0, none⟩ N3 c3 (runV (F + N2) N3) rfl (by simp [runV_len]) HC.out (run_one _ _) (by unfold maxLen; omega) (by omega) hsz5 ?_; intro v' w6 oa ga _; obtain ⟨a', cap', rfl⟩ := own_form oa; have hb6 : Below W2.heap.size w5 w6 := (Below.refl W2.heap.size w5).grown ga hsz5 (fun g hg => (q2.lt g hg).1); have o1' := Lib.hid (own_other o1.out ga hne.out); have HB6 := Lib.hid (HB.out.trans hb6); rw [runV_add] at oa; have oa' := Lib.hid oa; clear ga hb6)
      go_meet
      exact ⟨_, _, _, _, rfl, rfl, Lib.hid ⟨o1'.out, oa'.out, HB6.out⟩⟩
  case rest =>
    obtain ⟨a1, a2, c1, c2, rfl, rfl, HT⟩ := hcut
    clear T1 T2 T3
    have hb := HT.out.2.2
    have HB := Lib.hid (z1.trans (hb.mono z1.size))
    replace s0 := cell_below s0 hb
    replace s1 := cell_below s1 hb
    replace s2 := cell_below s2 hb
    clear hb z1
    generalize N2 + N3 = N at hN HT ⊢
    rcases Nat.eq_zero_or_pos N with h0 | h0
    · subst h0
      go_wp2_with fail
      refine wp_loop_rounds 1 ?_
      rw [rounds_succ]
      go_wp2_with fail
      refine (T4.out _ _ s0 s1 s2).mono ?_
      rintro e w7 ⟨a4, c4, rfl, _, _, hb⟩
      replace HB := Lib.hid (HB.out.trans (hb.mono HB.out.size))
      replace s0 := cell_below s0 hb
      replace s1 := cell_below s1 hb
      replace s2 := cell_below s2 hb
      clear hb
      go_wp2_with fail
      refine (T5.out _ _ s0 s1 s2).mono ?_
      rintro e w8 ⟨a5, c5, rfl, _, _, hb⟩
      replace HB := Lib.hid (HB.out.trans (hb.mono HB.out.size))
      clear hb
      go_wp2_with fail
      go_ret
      exact ⟨rfl, HB.out⟩
    · obtain ⟨g1, rfl, _, hc1⟩ := run_cells HT.out.1 h0
      obtain ⟨g2, rfl, _, hc2⟩ := run_cells HT.out.2.1 h0
      have S0 := Lib.hid (And.intro s0 (And.intro s1 s2))
      have C0 := Lib.hid (And.intro hc1 hc2)
      clear hc1 hc2 HT s0 s1 s2
      go_wp2_with fail
      go_loopw [63] (fun i wr => ∃ k : Nat, k ≤ N ∧ i = .int .i64 k ∧ Hid ((∀ j, j < N → wr.cell? ⟨g1, j, none⟩ = some (.int .i64 (F + j))) ∧ (∀ j, j < N → wr.cell? ⟨g2, j, none⟩ = some (.int .i64 (F + j)))) ∧
          Hid (wr.cell? ⟨w1.heap.size, 0, none⟩ = some (.int .i64 (1 + x)) ∧ wr.cell? ⟨w1.heap.size, 1, none⟩ = some (.int .i64 (1 + y)) ∧ wr.cell? ⟨w1.heap.size, 2, none⟩ = some (.int .i64 (z - 100))) ∧ Hid (Below w.heap.size w wr))
        (fun i _ => N - (intOf i).toNat)
      case atStart => exact ⟨0, by omega, rfl, C0, S0, HB⟩
      case round =>
        obtain ⟨k, hk, rfl, hC, hS3, hZ⟩ := hrel
        clear C0 S0 HB
        by_cases hlt : k < N
        · have l1 := hC.out.1 k hlt
          have l2 := hC.out.2 k hlt
          rcases k with _ | j
          · go_wp2_with fail
            go_quiet (fail)
            go_wp2_with fail
            go_roundw
            case rel => exact ⟨1, by omega, rfl, hC, hS3, Lib.hid (below_drewN hZ.out _)⟩
            case measure => simp [intOf]; omega
          · have l3 := hC.out.1 j (by omega)
            have e0 : F + ((j + 1 : Nat) : Int) = F + j + 1 := by omega
            rw [e0] at l1 l2
            have g1' : decide ((0 : Int) < (j : Int) + 1) = true := decide_eq_true (by omega)
            have g3 : IntKind.i64.wrap ((j : Int) + 1 - 1) = j := by rw [IntWalk.i64_in _ ⟨by omega, by omega⟩]; omega
            have g4 : IntKind.i64.wrap (F + j + 1) = F + j + 1 := IntWalk.i64_in _ ⟨by omega, by omega⟩
            clear e0
            go_wp2_with fail
            go_quiet (fail)
            go_wp2_with fail
            go_roundw
            case rel => exact ⟨j + 1 + 1, by omega, by go_num, hC, hS3, Lib.hid (below_drewN hZ.out _)⟩
            case measure => simp [intOf]; omega
        · have HB := hZ
          obtain ⟨s0, s1, s2⟩ := hS3.out
          clear hS3 hZ hC
          go_wp2_with fail
          refine (T4.out _ _ s0 s1 s2).mono ?_
          rintro e w7 ⟨a4, c4, rfl, _, _, hb⟩
          replace HB := Lib.hid (HB.out.trans (hb.mono HB.out.size))
          replace s0 := cell_below s0 hb
          replace s1 := cell_below s1 hb
          replace s2 := cell_below s2 hb
          clear hb
          go_wp2_with fail
          refine (T5.out _ _ s0 s1 s2).mono ?_
          rintro e w8 ⟨a5, c5, rfl, _, _, hb⟩
          replace HB := Lib.hid (HB.out.trans (hb.mono HB.out.size))
          clear hb
          go_wp2_with fail
          go_ret
          exact ⟨rfl, HB.out⟩
end Go.Proofs.Ythfffgdelllcdaa
