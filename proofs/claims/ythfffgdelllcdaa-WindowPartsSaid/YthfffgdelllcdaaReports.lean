/- The law WindowReports answers true at every shape, while and most. No condition. -/
import Derived.Test.YthfffgdelllcdaaRep
import Derived.Test.YthfffgdelllcdaaFirsts
import Derived.Deep.DeepCutAuto
namespace Go.Proofs.Ythfffgdelllcdaa
open Go.RowKit
theorem heap_new (w : World) (o : Obj) : (w.alloc o).heap[w.heap.size]? = some o := by
  show (w.heap.push o)[w.heap.size]? = _
  simp
theorem three_new (w : World) (o1 o2 o3 : Obj) : (((w.alloc o1).alloc o2).alloc o3).heap[w.heap.size]? = some o1 ∧ (((w.alloc o1).alloc o2).alloc o3).heap[w.heap.size + 1]? = some o2 ∧ (((w.alloc o1).alloc o2).alloc o3).heap[w.heap.size + 2]? = some o3 := by
  have h1 : (w.alloc o1).heap.size = w.heap.size + 1 := by simp
  have h2 : ((w.alloc o1).alloc o2).heap.size = w.heap.size + 2 := by simp
  refine ⟨?_, ?_, ?_⟩
  · rw [Below.heap_alloc _ _ _ (by omega), Below.heap_alloc _ _ _ (by omega)]; exact heap_new w o1
  · rw [Below.heap_alloc _ _ _ (by omega), ← h1]; exact heap_new _ o2
  · rw [← h2]; exact heap_new _ o3
set_option maxHeartbeats 1600000 in
theorem reports_walk (a b c f0 t0 m : Int) (m0 : 0 ≤ m) (m1 : m ≤ 255) (w : World) :
    Calls Try.prog 8 #[.agg #[.int .i64 a, .int .i64 b, .int .i64 c], .agg #[.int .i64 f0, .int .i64 t0], .int .u8 m] w fun e w' => e = .returned (.bool true) ∧ Below w.heap.size w w' := by
  go_enter Try.func8, Try.ntmps8
  go_wp2_with fail
  refine (awake_any _).mono ?_
  rintro e w1 ⟨rfl, hb1⟩
  have x0 : w1.cell? ⟨w.heap.size, 0, none⟩ = some (.int .i64 a) := cell_below (by simp [go_sem]) hb1
  have x1 : w1.cell? ⟨w.heap.size, 1, none⟩ = some (.int .i64 b) := cell_below (by simp [go_sem]) hb1
  have x2 : w1.cell? ⟨w.heap.size, 2, none⟩ = some (.int .i64 c) := cell_below (by simp [go_sem]) hb1
  have y0 : w1.cell? ⟨w.heap.size + 1, 0, none⟩ = some (.int .i64 f0) := cell_below (by simp [go_sem]) hb1
  have y1 : w1.cell? ⟨w.heap.size + 1, 1, none⟩ = some (.int .i64 t0) := cell_below (by simp [go_sem]) hb1
  have z0 : w1.cell? ⟨w.heap.size + 1 + 1, 0, none⟩ = some (.int .u8 m) := cell_below (by simp [go_sem]) hb1
  have z1 : Below w.heap.size w w1 := ((((Below.refl w.heap.size w).alloc (Nat.le_refl _) _).alloc (by simp) _).alloc (by simp; omega) _).trans (hb1.mono (by simp; omega))
  clear hb1
  go_wp2_with fail
  refine (shape_any a b c _).mono ?_
  rintro e w2 ⟨W, S, B, hS, rfl, hb2⟩
  have z2 := z1.trans (hb2.mono z1.size)
  replace y0 := cell_below y0 hb2
  replace y1 := cell_below y1 hb2
  replace z0 := cell_below z0 hb2
  clear hb2 x0 x1 x2 z1
  have hlt : w.heap.size + 1 < w2.heap.size := block_lt_of_cell y0
  have hlt2 : w.heap.size + 1 + 1 < w2.heap.size := block_lt_of_cell z0
  go_upto_region 4 with fail
  obtain ⟨W2, hW2⟩ : ∃ W2, W2 = w2.alloc (.cells #[.int .i64 W, .int .i64 S, .int .i64 B] 25) := ⟨_, rfl⟩
  have s0 : W2.cell? ⟨w2.heap.size, 0, none⟩ = some (.int .i64 W) := by rw [hW2]; simp [go_sem]
  have s1 : W2.cell? ⟨w2.heap.size, 1, none⟩ = some (.int .i64 S) := by rw [hW2]; simp [go_sem]
  have s2 : W2.cell? ⟨w2.heap.size, 2, none⟩ = some (.int .i64 B) := by rw [hW2]; simp [go_sem]
  have hb : Below w2.heap.size w2 W2 := by rw [hW2]; go_grown
  replace z2 := z2.trans (hb.mono z2.size)
  replace y0 := cell_below y0 hb
  replace y1 := cell_below y1 hb
  replace z0 := cell_below z0 hb
  rw [← hW2]
  clear hW2 hb
  go_cut [8, 9] (fun s8 s9 wx => ∃ bF bT : Nat, s8 = .pointer (some ⟨bF, 0, none⟩) ∧ s9 = .pointer (some ⟨bT, 0, none⟩) ∧ Hid (wx.cell? ⟨bF, 0, none⟩ = some (.int .i64 (heldV f0)) ∧ wx.cell? ⟨bT, 0, none⟩ = some (.int .i64 (heldV t0)) ∧ Below W2.heap.size W2 wx))
  case first =>
    go_region_held3 (fun w' => w'.cell? ⟨w.heap.size + 1, 0, none⟩ = some (.int .i64 f0) ∧ w'.cell? ⟨w.heap.size + 1, 1, none⟩ = some (.int .i64 t0)) (go_keep) (first | (go_at_call 12; refine (lheld_any _ _).mono ?_; rintro e w' ⟨rfl, rfl⟩))
    all_goals (go_wp2_with fail; go_meet; exact ⟨_, _, rfl, rfl, Lib.hid ⟨by simp [go_sem], by simp [go_sem], by go_grown⟩⟩)
  case rest =>
    obtain ⟨bF, bT, rfl, rfl, hcc⟩ := hcut
    obtain ⟨cF, cT, hbc⟩ := hcc.out
    clear hcc
    replace z2 := z2.trans (hbc.mono z2.size)
    replace s0 := cell_below s0 hbc
    replace s1 := cell_below s1 hbc
    replace s2 := cell_below s2 hbc
    replace y0 := cell_below y0 hbc
    replace y1 := cell_below y1 hbc
    replace z0 := cell_below z0 hbc
    clear hbc
    go_wp2_with fail
    refine (first_any W S B (heldV f0) _ hS).mono ?_
    rintro e w3 ⟨rfl, hb⟩
    rw [first_held]
    replace z2 := z2.trans (hb.mono z2.size)
    replace s0 := cell_below s0 hb
    replace s1 := cell_below s1 hb
    replace s2 := cell_below s2 hb
    replace y0 := cell_below y0 hb
    replace y1 := cell_below y1 hb
    replace z0 := cell_below z0 hb
    replace cF := cell_below cF hb
    replace cT := cell_below cT hb
    clear hb
    have hbS : w2.heap.size < w3.heap.size := block_lt_of_cell s0
    have hbF : bF < w3.heap.size := block_lt_of_cell cF
    have hbT : bT < w3.heap.size := block_lt_of_cell cT
    have hbM : w.heap.size + 1 + 1 < w3.heap.size := block_lt_of_cell z0
    go_upto_region 6 with fail
    obtain ⟨w4, hw4⟩ : ∃ w4, w4 = ((w3.alloc (.cells #[.int .i64 (firstV W S B f0)] 3)).alloc (.cells #[.int .i64 0] 3)).alloc (.cells #[.bool true] 4) := ⟨_, rfl⟩
    have hb : Below w3.heap.size w3 w4 := by rw [hw4]; go_grown
    have hsz : w4.heap.size = w3.heap.size + 3 := by rw [hw4]; simp
    have HY : Hid (YS W S B (heldV f0) (heldV t0) m (firstV W S B f0) 0 true w2.heap.size bF bT (w.heap.size + 1 + 1) w3.heap.size w4) := by
      refine Lib.hid ⟨⟨cell_below s0 hb, cell_below s1 hb, cell_below s2 hb⟩, cell_below cF hb, cell_below cT hb, cell_below z0 hb, ?_⟩
      rw [hw4]
      exact three_new _ _ _ _
    have hlt4 : w3.heap.size + 3 ≤ w4.heap.size := by omega
    rw [← hw4]
    replace s0 := cell_below s0 hb
    replace s1 := cell_below s1 hb
    replace s2 := cell_below s2 hb
    replace y0 := cell_below y0 hb
    replace y1 := cell_below y1 hb
    clear hw4 hsz z0 cF cT
    go_wp2_with fail
    refine (rep_make W S B f0 t0 _).mono ?_
    rintro e w5 ⟨rfl, HR, hb5, hsz⟩
    have HY5 := ys_below HY.out hb5
    have HZ5 := Lib.hid (z2.trans ((hb.mono z2.size).trans (hb5.mono (Nat.le_trans z2.size hb.size))))
    replace HR := Lib.hid HR
    replace HY5 := Lib.hid HY5
    clear HY s0 s1 s2 y0 y1 hsz hb hb5 z2
    go_wp2_with fail
    refine (rep_any W S B f0 t0 m _ w2.heap.size bF bT (w.heap.size + 1 + 1) w3.heap.size w4.heap.size _ hS m0 m1 hbS hbF hbT hbM hlt4 rfl HY5.out HR.out).mono ?_
    rintro e w6 ⟨rfl, k, hY, hK, hk, hend⟩
    have HY6 := Lib.hid hY
    have HZ6 := Lib.hid (HZ5.out.trans (hK.1.mono (by omega)))
    clear hY hK HY5 HR
    obtain ⟨⟨s0, s1, s2⟩, cF, cT, cM, h6, h7, h8⟩ := HY6.out
    have q6 := cell_of_one h6
    have q7 := cell_of_one h7
    have q8 := cell_of_one h8
    clear h6 h7 h8
    rcases hend with ⟨hend, hst⟩ | ⟨hend, hst⟩
    · obtain ⟨f1, f2⟩ := first_bd hS f0
      by_cases hc : 2305843009213693952 - W < (firstV W S B f0 + k) * S + B
      · go_wp2_with fail
        all_goals
          refine (window_err W S B _ _ hS (by omega) (by omega) (.inr hc)).mono ?_
          rintro e w7 ⟨rfl, hb⟩
          have HZ7 := Lib.hid (HZ6.out.trans (hb.mono HZ6.out.size))
          clear hb s0 s1 s2 cF cT cM q6 q7 q8
          go_wp2_with fail
          go_ret
          exact ⟨rfl, HZ7.out.alloc HZ7.out.size _⟩
      · have hst' : decide (heldV t0 < (firstV W S B f0 + k) * S + B + W) = true := by simpa using hst
        go_wp2_with fail
        all_goals
          refine (window_ok W S B _ _ hS (by omega) (by omega) (by omega)).mono ?_
          rintro e w7 ⟨rfl, hb⟩
          have HZ7 := Lib.hid (HZ6.out.trans (hb.mono HZ6.out.size))
          replace cT := cell_below cT hb
          have lT : bT < w7.heap.size := block_lt_of_cell cT
          clear hb s0 s1 s2 cF cM q6 q7 q8
          go_wp2_with fail
          go_ret
          exact ⟨rfl, HZ7.out.alloc HZ7.out.size _⟩
    · go_wp2_with fail
      all_goals
        go_ret
        exact ⟨rfl, HZ6.out⟩
end Go.Proofs.Ythfffgdelllcdaa
