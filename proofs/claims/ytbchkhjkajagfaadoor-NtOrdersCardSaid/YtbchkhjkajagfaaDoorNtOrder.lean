/- Contract over this seat's program: nt.Order, by subjects, predicates, objects; cmp.Or of three. -/
import Derived.Test.YtbchkhjkajagfaaDoorNtOrd
namespace Go.Proofs.YtbchkhjkajagfaaDoor
open Go Go.RowKit
set_option linter.unusedVariables false
set_option linter.unusedSimpArgs false
set_option maxRecDepth 100000
theorem or_three (x y z : Int) (B : Nat) (w : World) (h : w.heap[B]? = some (.cells #[.int .i64 x, .int .i64 y, .int .i64 z] 3)) :
    Calls Tryd.prog 46 #[.slice (some ⟨B, 0, none⟩) 3 3] w fun e w' => e = .returned (.int .i64 (orV [x, y, z])) ∧ w = w' := by
  have c0 : w.cell? ⟨B, 0, none⟩ = some (.int .i64 x) := by rw [Lib.cell_of_heap h]; rfl
  have c1 : w.cell? ⟨B, 1, none⟩ = some (.int .i64 y) := by rw [Lib.cell_of_heap h]; rfl
  have c2 : w.cell? ⟨B, 2, none⟩ = some (.int .i64 z) := by rw [Lib.cell_of_heap h]; rfl
  clear h
  obtain ⟨R, hR⟩ : ∃ R, R = orV [x, y, z] := ⟨_, rfl⟩
  rw [← hR]
  have HR := Lib.hid hR
  clear hR
  go_enter Tryd.func46, Tryd.ntmps46
  go_wp2_with fail
  go_loop [5, 8] (fun a i => ∃ k : Nat, k ≤ 3 ∧ i = .int .i64 k ∧ Hid (R = orV ([x, y, z].drop k))) (fun _ i => 3 - (intOf i).toNat)
  case atStart => exact ⟨0, by omega, rfl, HR⟩
  case round =>
    obtain ⟨k, hk, rfl, H⟩ := hrel
    clear HR
    by_cases h4 : k = 3
    · subst h4
      obtain rfl : R = 0 := H.out
      go_wp2_with fail
      go_ret
      exact ⟨rfl, rfl⟩
    · obtain ⟨v, hc, hd⟩ : ∃ v, w.cell? ⟨B, k, none⟩ = some (.int .i64 v) ∧ [x, y, z].drop k = v :: [x, y, z].drop (k + 1) := by
        rcases (by omega : k = 0 ∨ k = 1 ∨ k = 2) with rfl | rfl | rfl
        · exact ⟨x, c0, rfl⟩
        · exact ⟨y, c1, rfl⟩
        · exact ⟨z, c2, rfl⟩
      have HD := Lib.hid hd
      clear hd c0 c1 c2
      by_cases h0 : v = 0
      · subst h0
        have H2 : Hid (R = orV ([x, y, z].drop (k + 1))) := Lib.hid (by rw [H.out, HD.out]; rfl)
        have b1 : (k : Int) < 3 := by omega
        go_wp2_with fail
        go_round
        case rel => exact ⟨k + 1, by omega, by go_num, H2⟩
        case measure => simp [intOf]; omega
      · have H2 : Hid (R = v) := Lib.hid (by rw [H.out, HD.out]; unfold orV; rw [if_neg h0])
        have b1 : (k : Int) < 3 := by omega
        have b2 : (v != 0) = true := by simpa using h0
        go_wp2_with fail
        go_ret
        exact ⟨by rw [H2.out]; rfl, rfl⟩
theorem blk_newO (w : World) (cs : Array Value) (T : TypeId) : (w.alloc (.cells cs T)).heap[w.heap.size]? = some (.cells cs T (0, 0)) := (MapKept.heap_alloc w _).1
theorem alloc_belowO (w : World) (o : Obj) : Below w.heap.size w (w.alloc o) := (Below.refl _ _).alloc (Nat.le_refl _) o
theorem boxO {w w' : World} {b c : Nat} {o p : Obj} (h : w.heap[b]? = some o ∧ w.heap[c]? = some p) (hb : Below w.heap.size w w') : w'.heap[b]? = some o ∧ w'.heap[c]? = some p := ⟨boxb h.1 hb, boxb h.2 hb⟩
/-- the order of two triples -/
def triOrd (a b : Tri) : Int := orV [orderV a.s b.s, orderV a.p b.p, orderV a.o b.o]
set_option maxHeartbeats 6400000 in
theorem ntorder_any (a b : Tri) (ha : KeyTri a) (hb : KeyTri b) (w : World) : Calls Tryd.prog 22 #[triV a, triV b] w fun e w' => e = .returned (.int .i64 (triOrd a b)) ∧ Below w.heap.size w w' := by
  obtain ⟨T1, Y1, e1⟩ := key_iface ha.1
  obtain ⟨T2, Y2, e2⟩ := key_iface ha.2.1
  obtain ⟨T3, Y3, e3⟩ := key_iface ha.2.2
  obtain ⟨T4, Y4, e4⟩ := key_iface hb.1
  obtain ⟨T5, Y5, e5⟩ := key_iface hb.2.1
  obtain ⟨T6, Y6, e6⟩ := key_iface hb.2.2
  have H1 := Lib.hid (fun w => order_any a.s b.s w)
  have H2 := Lib.hid (fun w => order_any a.p b.p w)
  have H3 := Lib.hid (fun w => order_any a.o b.o w)
  unfold triV triOrd
  rw [e1, e2, e3, e4, e5, e6]
  rw [e1, e4] at H1
  rw [e2, e5] at H2
  rw [e3, e6] at H3
  generalize orderV a.s b.s = x at *
  generalize orderV a.p b.p = y at *
  generalize orderV a.o b.o = z at *
  clear e1 e2 e3 e4 e5 e6 ha hb
  obtain ⟨W1, hW1⟩ : ∃ W1, W1 = w.alloc (.cells #[.iface T1 Y1, .iface T2 Y2, .iface T3 Y3] 62) := ⟨_, rfl⟩
  obtain ⟨W2, hW2⟩ : ∃ W2, W2 = W1.alloc (.cells #[.iface T4 Y4, .iface T5 Y5, .iface T6 Y6] 62) := ⟨_, rfl⟩
  have HA1 : Hid (W1.heap[w.heap.size]? = some (.cells #[.iface T1 Y1, .iface T2 Y2, .iface T3 Y3] 62 (0, 0))) := Lib.hid (by rw [hW1]; exact blk_newO w _ _)
  have HA2 : Hid (W2.heap[w.heap.size]? = some (.cells #[.iface T1 Y1, .iface T2 Y2, .iface T3 Y3] 62 (0, 0))) := Lib.hid (by rw [hW2]; exact boxb HA1.out (alloc_belowO _ _))
  have HZ1 : Hid (W1.heap.size = w.heap.size + 1) := Lib.hid (by rw [hW1]; exact Array.size_push _)
  have HC2 : Hid (W2.heap[w.heap.size + 1]? = some (.cells #[.iface T4 Y4, .iface T5 Y5, .iface T6 Y6] 62 (0, 0))) := Lib.hid (by rw [← HZ1.out, hW2]; exact blk_newO W1 _ _)
  have HB2 : Hid (Below w.heap.size w W2) := Lib.hid (by rw [hW2, hW1]; exact ((alloc_belowO w _).alloc (alloc_belowO w _).size _))
  have HW1 := Lib.hid hW1
  have HW2 := Lib.hid hW2
  obtain ⟨d0, d1, d2, -⟩ := blk3 HA2.out
  obtain ⟨g0, g1, g2, -⟩ := blk3 HC2.out
  clear hW1 hW2
  go_enter Tryd.func22, Tryd.ntmps22
  go_wp2_with fail
  rw [← HW1.out, ← HW2.out]
  refine wp_region_held_drew (S := (fun w' => w'.heap[w.heap.size]? = some (.cells #[.iface T1 Y1, .iface T2 Y2, .iface T3 Y3] 62 (0, 0)) ∧ w'.heap[w.heap.size + 1]? = some (.cells #[.iface T4 Y4, .iface T5 Y5, .iface T6 Y6] 62 (0, 0)))) (by kernel_rfl) ?hSno0 (fun hHeld => ?_)
  case hSno0 => exact ⟨HA2.out, HC2.out⟩
  refine wpAnyH_take (i := 0) (oi := ⟨some 5, _, _, _, _, _⟩) (v := ?vno0) rfl (by kernel_rfl) (by kernel_rfl) (by kernel_rfl) (fun _ _ _ h => h) (Or.inl ⟨by kernel_rfl, ?yno0⟩) (by assumption) ?rno0
  case yno0 =>
    intro w hSw
    try dsimp only at hSw
    obtain ⟨c0, c1, c2, -⟩ := blk3 hSw.1; obtain ⟨f0, f1, f2, -⟩ := blk3 hSw.2
    first | (go_simp; done) | (go_simp; with_reducible rfl)
  try simp only [Act.put, List.setIfInBounds_toArray, List.set_cons_zero, List.set_cons_succ]
  refine wpAnyH_take (i := 1) (oi := ⟨some 6, _, _, _, _, _⟩) (v := ?vno1) rfl (by kernel_rfl) (by kernel_rfl) (by kernel_rfl) (fun _ _ _ h => h) (Or.inl ⟨by kernel_rfl, ?yno1⟩) (by assumption) ?rno1
  case yno1 =>
    intro w hSw
    try dsimp only at hSw
    obtain ⟨c0, c1, c2, -⟩ := blk3 hSw.1; obtain ⟨f0, f1, f2, -⟩ := blk3 hSw.2
    first | (go_simp; done) | (go_simp; with_reducible rfl)
  try simp only [Act.put, List.setIfInBounds_toArray, List.set_cons_zero, List.set_cons_succ]
  refine wpAnyH_take (i := 2) (oi := ⟨some 7, _, _, _, _, _⟩) (v := ?vno2) rfl (by kernel_rfl) (by kernel_rfl) (by kernel_rfl) (fun _ _ _ h => h) (Or.inl ⟨by kernel_rfl, ?yno2⟩) (by assumption) ?rno2
  case yno2 =>
    intro w hSw
    try dsimp only at hSw
    obtain ⟨c0, c1, c2, -⟩ := blk3 hSw.1; obtain ⟨f0, f1, f2, -⟩ := blk3 hSw.2
    first | (go_simp; done) | (go_simp; with_reducible rfl)
  try simp only [Act.put, List.setIfInBounds_toArray, List.set_cons_zero, List.set_cons_succ]
  refine wpAnyH_take (i := 3) (oi := ⟨some 8, _, _, _, _, _⟩) (v := ?vno3) rfl (by kernel_rfl) (by kernel_rfl) (by kernel_rfl) (fun _ _ _ h => h) (Or.inl ⟨by kernel_rfl, ?yno3⟩) (by assumption) ?rno3
  case yno3 =>
    intro w hSw
    try dsimp only at hSw
    obtain ⟨c0, c1, c2, -⟩ := blk3 hSw.1; obtain ⟨f0, f1, f2, -⟩ := blk3 hSw.2
    first | (go_simp; done) | (go_simp; with_reducible rfl)
  try simp only [Act.put, List.setIfInBounds_toArray, List.set_cons_zero, List.set_cons_succ]
  refine wpAnyH_take (i := 5) (oi := ⟨some 10, _, _, _, _, _⟩) (v := ?vno5) rfl (by kernel_rfl) (by kernel_rfl) (by kernel_rfl) (fun _ _ _ h => h) (Or.inl ⟨by kernel_rfl, ?yno5⟩) (by assumption) ?rno5
  case yno5 =>
    intro w hSw
    try dsimp only at hSw
    obtain ⟨c0, c1, c2, -⟩ := blk3 hSw.1; obtain ⟨f0, f1, f2, -⟩ := blk3 hSw.2
    first | (go_simp; done) | (go_simp; with_reducible rfl)
  try simp only [Act.put, List.setIfInBounds_toArray, List.set_cons_zero, List.set_cons_succ]
  refine wpAnyH_take (i := 6) (oi := ⟨some 11, _, _, _, _, _⟩) (v := ?vno6) rfl (by kernel_rfl) (by kernel_rfl) (by kernel_rfl) (fun _ _ _ h => h) (Or.inl ⟨by kernel_rfl, ?yno6⟩) (by assumption) ?rno6
  case yno6 =>
    intro w hSw
    try dsimp only at hSw
    obtain ⟨c0, c1, c2, -⟩ := blk3 hSw.1; obtain ⟨f0, f1, f2, -⟩ := blk3 hSw.2
    first | (go_simp; done) | (go_simp; with_reducible rfl)
  try simp only [Act.put, List.setIfInBounds_toArray, List.set_cons_zero, List.set_cons_succ]
  refine wpAnyH_take (i := 7) (oi := ⟨some 12, _, _, _, _, _⟩) (v := ?vno7) rfl (by kernel_rfl) (by kernel_rfl) (by kernel_rfl) (fun _ _ _ h => h) (Or.inl ⟨by kernel_rfl, ?yno7⟩) (by assumption) ?rno7
  case yno7 =>
    intro w hSw
    try dsimp only at hSw
    obtain ⟨c0, c1, c2, -⟩ := blk3 hSw.1; obtain ⟨f0, f1, f2, -⟩ := blk3 hSw.2
    first | (go_simp; done) | (go_simp; with_reducible rfl)
  try simp only [Act.put, List.setIfInBounds_toArray, List.set_cons_zero, List.set_cons_succ]
  refine wpAnyH_take (i := 8) (oi := ⟨some 13, _, _, _, _, _⟩) (v := ?vno8) rfl (by kernel_rfl) (by kernel_rfl) (by kernel_rfl) (fun _ _ _ h => h) (Or.inl ⟨by kernel_rfl, ?yno8⟩) (by assumption) ?rno8
  case yno8 =>
    intro w hSw
    try dsimp only at hSw
    obtain ⟨c0, c1, c2, -⟩ := blk3 hSw.1; obtain ⟨f0, f1, f2, -⟩ := blk3 hSw.2
    first | (go_simp; done) | (go_simp; with_reducible rfl)
  try simp only [Act.put, List.setIfInBounds_toArray, List.set_cons_zero, List.set_cons_succ]
  refine wpAnyH_take (i := 10) (oi := ⟨some 15, _, _, _, _, _⟩) (v := ?vno10) rfl (by kernel_rfl) (by kernel_rfl) (by kernel_rfl) (fun _ _ _ h => h) (Or.inl ⟨by kernel_rfl, ?yno10⟩) (by assumption) ?rno10
  case yno10 =>
    intro w hSw
    try dsimp only at hSw
    obtain ⟨c0, c1, c2, -⟩ := blk3 hSw.1; obtain ⟨f0, f1, f2, -⟩ := blk3 hSw.2
    first | (go_simp; done) | (go_simp; with_reducible rfl)
  try simp only [Act.put, List.setIfInBounds_toArray, List.set_cons_zero, List.set_cons_succ]
  refine wpAnyH_take (i := 11) (oi := ⟨some 16, _, _, _, _, _⟩) (v := ?vno11) rfl (by kernel_rfl) (by kernel_rfl) (by kernel_rfl) (fun _ _ _ h => h) (Or.inl ⟨by kernel_rfl, ?yno11⟩) (by assumption) ?rno11
  case yno11 =>
    intro w hSw
    try dsimp only at hSw
    obtain ⟨c0, c1, c2, -⟩ := blk3 hSw.1; obtain ⟨f0, f1, f2, -⟩ := blk3 hSw.2
    first | (go_simp; done) | (go_simp; with_reducible rfl)
  try simp only [Act.put, List.setIfInBounds_toArray, List.set_cons_zero, List.set_cons_succ]
  refine wpAnyH_take (i := 12) (oi := ⟨some 17, _, _, _, _, _⟩) (v := ?vno12) rfl (by kernel_rfl) (by kernel_rfl) (by kernel_rfl) (fun _ _ _ h => h) (Or.inl ⟨by kernel_rfl, ?yno12⟩) (by assumption) ?rno12
  case yno12 =>
    intro w hSw
    try dsimp only at hSw
    obtain ⟨c0, c1, c2, -⟩ := blk3 hSw.1; obtain ⟨f0, f1, f2, -⟩ := blk3 hSw.2
    first | (go_simp; done) | (go_simp; with_reducible rfl)
  try simp only [Act.put, List.setIfInBounds_toArray, List.set_cons_zero, List.set_cons_succ]
  refine wpAnyH_take (i := 13) (oi := ⟨some 18, _, _, _, _, _⟩) (v := ?vno13) rfl (by kernel_rfl) (by kernel_rfl) (by kernel_rfl) (fun _ _ _ h => h) (Or.inl ⟨by kernel_rfl, ?yno13⟩) (by assumption) ?rno13
  case yno13 =>
    intro w hSw
    try dsimp only at hSw
    obtain ⟨c0, c1, c2, -⟩ := blk3 hSw.1; obtain ⟨f0, f1, f2, -⟩ := blk3 hSw.2
    first | (go_simp; done) | (go_simp; with_reducible rfl)
  try simp only [Act.put, List.setIfInBounds_toArray, List.set_cons_zero, List.set_cons_succ]
  refine wpAnyH_ready (rs := [4]) (by kernel_rfl) (by simp) ?_
  refine AllReadyH.cons (i := 4) (o := ⟨some 9, _, _, _, _, _⟩) rfl (fun K hK => ?_) AllReadyH.nil
  go_simp
  refine (H1.out _).mono ?_
  rintro e z1 ⟨rfl, hb1⟩
  have G1 := Lib.hid (HB2.out.drew.trans (hb1.mono HB2.out.drew.size))
  go_wp2_with fail
  refine hK.out _ _ ?_ (fun hHeld => ?_)
  · exact boxO (by assumption) hb1
  clear hK K
  try simp only [Act.put, List.setIfInBounds_toArray, List.set_cons_zero, List.set_cons_succ]
  refine wpAnyH_ready (rs := [9]) (by kernel_rfl) (by simp) ?_
  refine AllReadyH.cons (i := 9) (o := ⟨some 14, _, _, _, _, _⟩) rfl (fun K hK => ?_) AllReadyH.nil
  go_simp
  refine (H2.out _).mono ?_
  rintro e z2 ⟨rfl, hb2⟩
  have G2 := Lib.hid (G1.out.trans (hb2.mono G1.out.size))
  go_wp2_with fail
  refine hK.out _ _ ?_ (fun hHeld => ?_)
  · exact boxO (by assumption) hb2
  clear hK K
  try simp only [Act.put, List.setIfInBounds_toArray, List.set_cons_zero, List.set_cons_succ]
  refine wpAnyH_ready (rs := [14]) (by kernel_rfl) (by simp) ?_
  refine AllReadyH.cons (i := 14) (o := ⟨some 19, _, _, _, _, _⟩) rfl (fun K hK => ?_) AllReadyH.nil
  go_simp
  refine (H3.out _).mono ?_
  rintro e z3 ⟨rfl, hb3⟩
  have G3 := Lib.hid (G2.out.trans (hb3.mono G2.out.size))
  go_wp2_with fail
  refine hK.out _ _ ?_ (fun hHeld => ?_)
  · exact boxO (by assumption) hb3
  clear hK K
  try simp only [Act.put, List.setIfInBounds_toArray, List.set_cons_zero, List.set_cons_succ]
  refine wpAnyH_ready (rs := [15]) (by kernel_rfl) (by simp) ?_
  refine AllReadyH.cons (i := 15) (o := ⟨some 20, _, _, _, _, _⟩) rfl (fun K hK => ?_) AllReadyH.nil
  go_simp
  have G4 := Lib.hid (G3.out.alloc G3.out.size (.cells #[.int .i64 x, .int .i64 y, .int .i64 z] 3))
  have hor := or_three x y z z3.heap.size (z3.alloc (.cells #[.int .i64 x, .int .i64 y, .int .i64 z] 3)) (blk_newO z3 _ _)
  have HOR := Lib.hid hor
  clear hor
  refine hK.out _ _ ?_ (fun hHeld => ?_)
  · exact boxO (by assumption) (alloc_belowO _ _)
  clear hK K
  try simp only [Act.put, List.setIfInBounds_toArray, List.set_cons_zero, List.set_cons_succ]
  refine wpAnyH_ready (rs := [16]) (by kernel_rfl) (by simp) ?_
  refine AllReadyH.cons (i := 16) (o := ⟨some 21, _, _, _, _, _⟩) rfl (fun K hK => ?_) AllReadyH.nil
  go_simp
  refine HOR.out.mono ?_
  rintro e z5 ⟨rfl, rfl⟩
  go_wp2_with fail
  refine hK.out _ _ ?_ (fun hHeld => ?_)
  · exact by assumption
  clear hK K
  try simp only [Act.put, List.setIfInBounds_toArray, List.set_cons_zero, List.set_cons_succ]
  refine wpAnyH_take (i := 17) (oi := ⟨some 4, _, _, _, _, _⟩) (v := ?vno17) rfl (by kernel_rfl) (by kernel_rfl) (by kernel_rfl) (fun _ _ _ h => h) (Or.inl ⟨by kernel_rfl, ?yno17⟩) (by assumption) ?rno17
  case yno17 =>
    intro w hSw
    try dsimp only at hSw
    obtain ⟨c0, c1, c2, -⟩ := blk3 hSw.1; obtain ⟨f0, f1, f2, -⟩ := blk3 hSw.2
    first | (go_simp; done) | (go_simp; with_reducible rfl)
  try simp only [Act.put, List.setIfInBounds_toArray, List.set_cons_zero, List.set_cons_succ]
  refine wpAnyH_done (by kernel_rfl) ?_ _
  go_wp2_with fail
  go_ret
  exact ⟨rfl, G4.out⟩
end Go.Proofs.YtbchkhjkajagfaaDoor
