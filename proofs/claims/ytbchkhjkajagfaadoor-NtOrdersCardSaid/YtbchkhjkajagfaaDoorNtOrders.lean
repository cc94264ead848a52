/- The law NtOrders: its walk. Every two triples. -/
import Derived.Test.YtbchkhjkajagfaaDoorNtOrder
import Derived.Test.YtbchkhjkajagfaaDoorNtFew
import Derived.Test.YtbchkhjkajagfaaDoorNtAwake
import Derived.BigQuiet
namespace Go.Proofs.YtbchkhjkajagfaaDoor
open Go Go.RowKit
set_option linter.unusedVariables false
set_option linter.unusedSimpArgs false
set_option maxRecDepth 100000
theorem kept12o {w1 w2 : World} {p0 p1 p2 p3 p4 p5 p6 p7 p8 p9 p10 p11 : Addr} {v0 v1 v2 v3 v4 v5 v6 v7 v8 v9 v10 v11 : Value} (h : w1.cell? p0 = some v0 ∧ w1.cell? p1 = some v1 ∧ w1.cell? p2 = some v2 ∧ w1.cell? p3 = some v3 ∧ w1.cell? p4 = some v4 ∧ w1.cell? p5 = some v5 ∧ w1.cell? p6 = some v6 ∧ w1.cell? p7 = some v7 ∧ w1.cell? p8 = some v8 ∧ w1.cell? p9 = some v9 ∧ w1.cell? p10 = some v10 ∧ w1.cell? p11 = some v11) (hb : Below w1.heap.size w1 w2) :
    w2.cell? p0 = some v0 ∧ w2.cell? p1 = some v1 ∧ w2.cell? p2 = some v2 ∧ w2.cell? p3 = some v3 ∧ w2.cell? p4 = some v4 ∧ w2.cell? p5 = some v5 ∧ w2.cell? p6 = some v6 ∧ w2.cell? p7 = some v7 ∧ w2.cell? p8 = some v8 ∧ w2.cell? p9 = some v9 ∧ w2.cell? p10 = some v10 ∧ w2.cell? p11 = some v11 := by
  obtain ⟨h0, h1, h2, h3, h4, h5, h6, h7, h8, h9, h10, h11⟩ := h
  exact ⟨cell_below h0 hb, cell_below h1 hb, cell_below h2 hb, cell_below h3 hb, cell_below h4 hb, cell_below h5 hb, cell_below h6 hb, cell_below h7 hb, cell_below h8 hb, cell_below h9 hb, cell_below h10 hb, cell_below h11 hb⟩
theorem raw3s_new (w : World) (r q : Raw3) (hr : r.s.In ∧ r.p.In ∧ r.o.In) (hq : q.s.In ∧ q.p.In ∧ q.o.In) :
    Raw3sAt (w.alloc (.cells (raw3L r ++ raw3L q).toArray 47)) (some ⟨w.heap.size, 0, none⟩) [r, q] := by
  have hb := blk_newO w (raw3L r ++ raw3L q).toArray 47
  have hc : ∀ j v, (raw3L r ++ raw3L q)[j]? = some v → (w.alloc (.cells (raw3L r ++ raw3L q).toArray 47)).cell? ⟨w.heap.size, j, none⟩ = some v := fun j v hj => by
    rw [Lib.cell_of_heap hb]
    simpa using hj
  refine .inr ⟨_, 0, rfl, by simp, fun i hi => ?_⟩
  have hl : (raw3L r).length = 12 := rfl
  rcases (show i = 0 ∨ i = 1 by have : i < 2 := hi; omega) with rfl | rfl
  · refine raw3_of_cells hr fun j v hj => ?_
    replace hj : (raw3L r)[j]? = some v := hj
    have h1 : (raw3L r ++ raw3L q)[j]? = some v := by rw [List.getElem?_append_left (List.getElem?_eq_some_iff.1 hj).1]; exact hj
    rw [show 0 + 0 * 12 + j = j by omega]
    exact hc j v h1
  · refine raw3_of_cells hq fun j v hj => ?_
    replace hj : (raw3L q)[j]? = some v := hj
    have h1 : (raw3L r ++ raw3L q)[12 + j]? = some v := by rw [List.getElem?_append_right (by omega), hl, show 12 + j - 12 = j by omega]; exact hj
    rw [show 0 + 1 * 12 + j = 12 + j by omega]
    exact hc (12 + j) v h1
theorem neg_i64 {R : Int} (h : R = -1 ∨ R = 0 ∨ R = 1) : IntKind.i64.wrap (-R) = -R := by rcases h with rfl | rfl | rfl <;> rfl
theorem orV_step (l : List Int) (x : Int) : orV (l ++ [x]) = if orV l = 0 then x else orV l := by
  induction l with
  | nil =>
    show orV [x] = _
    unfold orV orV
    rw [if_pos rfl]
    split <;> omega
  | cons y l ih =>
    show orV (y :: (l ++ [x])) = _
    unfold orV
    by_cases h : y = 0
    · rw [if_pos h, if_pos h, ih]
    · rw [if_neg h, if_neg h, if_neg h]
theorem triOrd_anti (a b : Tri) : triOrd b a = - triOrd a b := by
  unfold triOrd
  rw [order_anti a.s b.s, order_anti a.p b.p, order_anti a.o b.o]
  unfold orV orV orV orV
  split <;> split <;> (try split) <;> (try split) <;> (try split) <;> (try split) <;> omega
theorem triOrd_vals (a b : Tri) : triOrd a b = -1 ∨ triOrd a b = 0 ∨ triOrd a b = 1 := by
  have h1 := order_vals a.s b.s
  have h2 := order_vals a.p b.p
  have h3 := order_vals a.o b.o
  unfold triOrd orV orV orV orV
  split <;> (try split) <;> (try split) <;> omega
theorem less_both (X Y : Tm) : lessR X Y = decide (orderV X Y = -1) ∧ lessR Y X = decide (orderV X Y = 1) := by
  refine ⟨order_less X Y, ?_⟩
  rw [order_less, order_anti X Y]
  by_cases h : orderV X Y = 1
  · rw [h]; rfl
  · rw [decide_eq_false h, decide_eq_false (by omega)]
theorem cells8 {w : World} {b : Nat} {T : TypeId} {x0 x1 x2 x3 x4 x5 x6 x7 : Value} (h1 : w.heap[b]? = some (.cells #[x0, x1, x2, x3, x4, x5, x6, x7] T (0, 0))) :
    w.cell? ⟨b, 0, none⟩ = some x0 ∧ w.cell? ⟨b, 1, none⟩ = some x1 ∧ w.cell? ⟨b, 2, none⟩ = some x2 ∧ w.cell? ⟨b, 3, none⟩ = some x3 ∧ w.cell? ⟨b, 4, none⟩ = some x4 ∧ w.cell? ⟨b, 5, none⟩ = some x5 ∧ w.cell? ⟨b, 6, none⟩ = some x6 ∧ w.cell? ⟨b, 7, none⟩ = some x7 := by
  exact ⟨by simp [World.cell?, h1], by simp [World.cell?, h1], by simp [World.cell?, h1], by simp [World.cell?, h1], by simp [World.cell?, h1], by simp [World.cell?, h1], by simp [World.cell?, h1], by simp [World.cell?, h1]⟩
set_option maxHeartbeats 25600000 in
theorem ntorders_walk (ra rb : Raw3) (ha : ra.s.In ∧ ra.p.In ∧ ra.o.In) (hb : rb.s.In ∧ rb.p.In ∧ rb.o.In) (w : World) (he : Esc w) (hm : MaxV w) :
    Calls Tryd.prog 5 #[.agg (raw3L ra).toArray, .agg (raw3L rb).toArray] w fun e w' => e = .returned (.bool true) ∧ Below w.heap.size w w' := by
  obtain ⟨G, hG⟩ := good_fn
  have HA := Lib.hid (fun w' (hb : Below w.heap.size w w') => nawake_any hG w' (he.below he.lt hb) (hm.below hb))
  have hfw := fun w' => few_any (some ⟨World.heap w' |>.size, 0, none⟩) [ra, rb] 2 _ (raw3s_new w' ra rb ha hb) (by simp)
  have HKA : Hid (KeyTri (tri3 ra) ∧ KeyTri (tri3 rb)) := Lib.hid ⟨tri3_key ra, tri3_key rb⟩
  have HFT : Hid (fewT [ra, rb] = [tri3 ra, tri3 rb]) := Lib.hid rfl
  rw [HFT.out] at hfw
  obtain ⟨ta, hta⟩ : ∃ t, t = tri3 ra := ⟨_, rfl⟩
  obtain ⟨tb, htb⟩ : ∃ t, t = tri3 rb := ⟨_, rfl⟩
  rw [← hta, ← htb] at hfw HKA
  obtain ⟨fb, hfb⟩ : ∃ b, b = fewB [ra, rb] := ⟨_, rfl⟩
  rw [← hfb] at hfw
  clear he hm hG HFT hta htb hfb ha hb
  obtain ⟨⟨m1, s1, t1, l1⟩, ⟨m2, s2, t2, l2⟩, ⟨m3, s3, t3, l3⟩⟩ := ra
  obtain ⟨⟨m4, s4, t4, l4⟩, ⟨m5, s5, t5, l5⟩, ⟨m6, s6, t6, l6⟩⟩ := rb
  have HFW : Hid (∀ w' : World, Calls Tryd.prog 16 #[.slice (some ⟨w'.heap.size, 0, none⟩) 2 2] (w'.alloc (.cells #[.int .i64 m1, .string s1, .string t1, .string l1, .int .i64 m2, .string s2, .string t2, .string l2, .int .i64 m3, .string s3, .string t3, .string l3, .int .i64 m4, .string s4, .string t4, .string l4, .int .i64 m5, .string s5, .string t5, .string l5, .int .i64 m6, .string s6, .string t6, .string l6] 47)) fun e w2 => ∃ V, e = .returned (.tuple #[V, .bool fb]) ∧ Below (w'.alloc (.cells #[.int .i64 m1, .string s1, .string t1, .string l1, .int .i64 m2, .string s2, .string t2, .string l2, .int .i64 m3, .string s3, .string t3, .string l3, .int .i64 m4, .string s4, .string t4, .string l4, .int .i64 m5, .string s5, .string t5, .string l5, .int .i64 m6, .string s6, .string t6, .string l6] 47)).heap.size (w'.alloc (.cells #[.int .i64 m1, .string s1, .string t1, .string l1, .int .i64 m2, .string s2, .string t2, .string l2, .int .i64 m3, .string s3, .string t3, .string l3, .int .i64 m4, .string s4, .string t4, .string l4, .int .i64 m5, .string s5, .string t5, .string l5, .int .i64 m6, .string s6, .string t6, .string l6] 47)) w2 ∧ (fb = true → RTriRow w2 (w'.alloc (.cells #[.int .i64 m1, .string s1, .string t1, .string l1, .int .i64 m2, .string s2, .string t2, .string l2, .int .i64 m3, .string s3, .string t3, .string l3, .int .i64 m4, .string s4, .string t4, .string l4, .int .i64 m5, .string s5, .string t5, .string l5, .int .i64 m6, .string s6, .string t6, .string l6] 47)).heap.size V [ta, tb])) := Lib.hid hfw
  clear hfw
  show Calls Tryd.prog 5 #[.agg #[.int .i64 m1, .string s1, .string t1, .string l1, .int .i64 m2, .string s2, .string t2, .string l2, .int .i64 m3, .string s3, .string t3, .string l3], .agg #[.int .i64 m4, .string s4, .string t4, .string l4, .int .i64 m5, .string s5, .string t5, .string l5, .int .i64 m6, .string s6, .string t6, .string l6]] w _
  obtain ⟨W1, hW1⟩ : ∃ W1, W1 = w.alloc (.cells #[.int .i64 m1, .string s1, .string t1, .string l1, .int .i64 m2, .string s2, .string t2, .string l2, .int .i64 m3, .string s3, .string t3, .string l3] 47) := ⟨_, rfl⟩
  obtain ⟨W2, hW2⟩ : ∃ W2, W2 = W1.alloc (.cells #[.int .i64 m4, .string s4, .string t4, .string l4, .int .i64 m5, .string s5, .string t5, .string l5, .int .i64 m6, .string s6, .string t6, .string l6] 47) := ⟨_, rfl⟩
  have HX1 : Hid (W1.heap[w.heap.size]? = some (.cells #[.int .i64 m1, .string s1, .string t1, .string l1, .int .i64 m2, .string s2, .string t2, .string l2, .int .i64 m3, .string s3, .string t3, .string l3] 47 (0, 0))) := Lib.hid (by rw [hW1]; exact blk_newO w _ _)
  have HX2 : Hid (W2.heap[w.heap.size]? = some (.cells #[.int .i64 m1, .string s1, .string t1, .string l1, .int .i64 m2, .string s2, .string t2, .string l2, .int .i64 m3, .string s3, .string t3, .string l3] 47 (0, 0))) := Lib.hid (by rw [hW2]; exact boxb HX1.out (alloc_belowO _ _))
  have HZ1 : Hid (W1.heap.size = w.heap.size + 1) := Lib.hid (by rw [hW1]; exact Array.size_push _)
  have HY2 : Hid (W2.heap[w.heap.size + 1]? = some (.cells #[.int .i64 m4, .string s4, .string t4, .string l4, .int .i64 m5, .string s5, .string t5, .string l5, .int .i64 m6, .string s6, .string t6, .string l6] 47 (0, 0))) := Lib.hid (by rw [← HZ1.out, hW2]; exact blk_newO W1 _ _)
  have HB2 : Hid (Below w.heap.size w W2) := Lib.hid (by rw [hW2, hW1]; exact ((alloc_belowO w _).alloc (alloc_belowO w _).size _))
  have HW1 := Lib.hid hW1
  have HW2 := Lib.hid hW2
  clear hW1 hW2
  cases fb with
  | false =>
    go_enter Tryd.func5, Tryd.ntmps5
    go_wp2_with fail
    rw [← HW1.out, ← HW2.out]
    refine (HA.out _ HB2.out).mono ?_
    rintro e w3 ⟨rfl, hb3⟩
    have HB3 := Lib.hid (HB2.out.trans (hb3.mono HB2.out.size))
    have HX3 := Lib.hid (boxO ⟨HX2.out, HY2.out⟩ hb3)
    clear hb3
    obtain ⟨d0, d1, d2, d3, d4, d5, d6, d7, d8, d9, d10, d11⟩ := cells12 HX3.out.1
    obtain ⟨g0, g1, g2, g3, g4, g5, g6, g7, g8, g9, g10, g11⟩ := cells12 HX3.out.2
    go_wp2_with fail
    refine (HFW.out w3).mono ?_
    rintro e w5 ⟨V5, rfl, hb5, hr5⟩
    have HB5 := Lib.hid (HB3.out.trans (((Below.refl _ _).alloc (Nat.le_refl _) _ |>.trans (hb5.mono (alloc_belowO _ _).size)).mono HB3.out.size))
    clear hb5 d0 d1 d2 d3 d4 d5 d6 d7 d8 d9 d10 d11 g0 g1 g2 g3 g4 g5 g6 g7 g8 g9 g10 g11
    go_wp2_with fail
    go_ret
    exact ⟨rfl, HB5.out⟩
  | true =>
  have HOV := Lib.hid (And.intro (order_vals ta.s tb.s) (And.intro (order_vals ta.p tb.p) (order_vals ta.o tb.o)))
  have HTV := Lib.hid (triOrd_vals ta tb)
  have HL1 := Lib.hid (fun w => rless_any ta.s tb.s w)
  have HL2 := Lib.hid (fun w => rless_any ta.p tb.p w)
  have HL3 := Lib.hid (fun w => rless_any ta.o tb.o w)
  have HM1 := Lib.hid (fun w => rless_any tb.s ta.s w)
  have HM2 := Lib.hid (fun w => rless_any tb.p ta.p w)
  have HM3 := Lib.hid (fun w => rless_any tb.o ta.o w)
  rw [(less_both ta.s tb.s).1] at HL1
  rw [(less_both ta.p tb.p).1] at HL2
  rw [(less_both ta.o tb.o).1] at HL3
  rw [(less_both ta.s tb.s).2] at HM1
  rw [(less_both ta.p tb.p).2] at HM2
  rw [(less_both ta.o tb.o).2] at HM3
  have HRA := Lib.hid (fun w => real3_any ta HKA.out.1 w)
  have HRB := Lib.hid (fun w => real3_any tb HKA.out.2 w)
  have HO1 := Lib.hid (fun w => ntorder_any ta tb HKA.out.1 HKA.out.2 w)
  have HO2 := Lib.hid (fun w => ntorder_any tb ta HKA.out.2 HKA.out.1 w)
  rw [triOrd_anti ta tb] at HO2
  have HR0 : Hid (triOrd ta tb = orV [orderV ta.s tb.s, orderV ta.p tb.p, orderV ta.o tb.o]) := Lib.hid rfl
  generalize orderV ta.s tb.s = o1 at *
  generalize orderV ta.p tb.p = o2 at *
  generalize orderV ta.o tb.o = o3 at *
  obtain ⟨R, hR⟩ : ∃ R, R = triOrd ta tb := ⟨_, rfl⟩
  rw [← hR] at HO1 HO2 HTV HR0
  clear hR
  obtain ⟨VA, hVA⟩ : ∃ V, V = triV ta := ⟨_, rfl⟩
  obtain ⟨VB, hVB⟩ : ∃ V, V = triV tb := ⟨_, rfl⟩
  rw [← hVA] at HRA HO1 HO2
  rw [← hVB] at HRB HO1 HO2
  clear hVA hVB
  unfold refT at HL1 HL2 HL3 HM1 HM2 HM3
  unfold rtriV at HRA HRB
  obtain ⟨k1, hk1⟩ : ∃ x, x = kindV ta.s := ⟨_, rfl⟩
  obtain ⟨x1, hx1⟩ : ∃ x, x = text0 ta.s := ⟨_, rfl⟩
  obtain ⟨y1, hy1⟩ : ∃ x, x = text1 ta.s := ⟨_, rfl⟩
  obtain ⟨z1, hz1⟩ : ∃ x, x = text2 ta.s := ⟨_, rfl⟩
  obtain ⟨k2, hk2⟩ : ∃ x, x = kindV ta.p := ⟨_, rfl⟩
  obtain ⟨x2, hx2⟩ : ∃ x, x = text0 ta.p := ⟨_, rfl⟩
  obtain ⟨y2, hy2⟩ : ∃ x, x = text1 ta.p := ⟨_, rfl⟩
  obtain ⟨z2, hz2⟩ : ∃ x, x = text2 ta.p := ⟨_, rfl⟩
  obtain ⟨k3, hk3⟩ : ∃ x, x = kindV ta.o := ⟨_, rfl⟩
  obtain ⟨x3, hx3⟩ : ∃ x, x = text0 ta.o := ⟨_, rfl⟩
  obtain ⟨y3, hy3⟩ : ∃ x, x = text1 ta.o := ⟨_, rfl⟩
  obtain ⟨z3, hz3⟩ : ∃ x, x = text2 ta.o := ⟨_, rfl⟩
  obtain ⟨k4, hk4⟩ : ∃ x, x = kindV tb.s := ⟨_, rfl⟩
  obtain ⟨x4, hx4⟩ : ∃ x, x = text0 tb.s := ⟨_, rfl⟩
  obtain ⟨y4, hy4⟩ : ∃ x, x = text1 tb.s := ⟨_, rfl⟩
  obtain ⟨z4, hz4⟩ : ∃ x, x = text2 tb.s := ⟨_, rfl⟩
  obtain ⟨k5, hk5⟩ : ∃ x, x = kindV tb.p := ⟨_, rfl⟩
  obtain ⟨x5, hx5⟩ : ∃ x, x = text0 tb.p := ⟨_, rfl⟩
  obtain ⟨y5, hy5⟩ : ∃ x, x = text1 tb.p := ⟨_, rfl⟩
  obtain ⟨z5, hz5⟩ : ∃ x, x = text2 tb.p := ⟨_, rfl⟩
  obtain ⟨k6, hk6⟩ : ∃ x, x = kindV tb.o := ⟨_, rfl⟩
  obtain ⟨x6, hx6⟩ : ∃ x, x = text0 tb.o := ⟨_, rfl⟩
  obtain ⟨y6, hy6⟩ : ∃ x, x = text1 tb.o := ⟨_, rfl⟩
  obtain ⟨z6, hz6⟩ : ∃ x, x = text2 tb.o := ⟨_, rfl⟩
  rw [← hk1, ← hx1, ← hy1, ← hz1] at HL1 HM1
  rw [← hk4, ← hx4, ← hy4, ← hz4] at HL1 HM1
  rw [← hk2, ← hx2, ← hy2, ← hz2] at HL2 HM2
  rw [← hk5, ← hx5, ← hy5, ← hz5] at HL2 HM2
  rw [← hk3, ← hx3, ← hy3, ← hz3] at HL3 HM3
  rw [← hk6, ← hx6, ← hy6, ← hz6] at HL3 HM3
  rw [← hk1, ← hx1, ← hy1, ← hz1, ← hk2, ← hx2, ← hy2, ← hz2, ← hk3, ← hx3, ← hy3, ← hz3] at HRA
  rw [← hk4, ← hx4, ← hy4, ← hz4, ← hk5, ← hx5, ← hy5, ← hz5, ← hk6, ← hx6, ← hy6, ← hz6] at HRB
  go_enter Tryd.func5, Tryd.ntmps5
  go_wp2_with fail
  rw [← HW1.out, ← HW2.out]
  refine (HA.out _ HB2.out).mono ?_
  rintro e w3 ⟨rfl, hb3⟩
  have HB3 := Lib.hid (HB2.out.trans (hb3.mono HB2.out.size))
  have HX3 := Lib.hid (boxO ⟨HX2.out, HY2.out⟩ hb3)
  clear hb3
  obtain ⟨d0, d1, d2, d3, d4, d5, d6, d7, d8, d9, d10, d11⟩ := cells12 HX3.out.1
  obtain ⟨g0, g1, g2, g3, g4, g5, g6, g7, g8, g9, g10, g11⟩ := cells12 HX3.out.2
  go_wp2_with fail
  refine (HFW.out w3).mono ?_
  rintro e w5 ⟨V5, rfl, hb5, hr5⟩
  have HB5 := Lib.hid (HB3.out.trans (((Below.refl _ _).alloc (Nat.le_refl _) _ |>.trans (hb5.mono (alloc_belowO _ _).size)).mono HB3.out.size))
  clear hb5 d0 d1 d2 d3 d4 d5 d6 d7 d8 d9 d10 d11 g0 g1 g2 g3 g4 g5 g6 g7 g8 g9 g10 g11
  have hrow := hr5 (by trivial)
  clear hr5
  obtain ⟨gb, gc, hv, hgb, r0, r1, r2, r3, r4, r5, r6, r7, r8, r9, r10, r11⟩ := rtri_at hrow 0 (by simp)
  obtain ⟨gb', gc', hv', hgb', q0, q1, q2, q3, q4, q5, q6, q7, q8, q9, q10, q11⟩ := rtri_at hrow 1 (by simp)
  obtain ⟨⟨e1, e2⟩, rfl⟩ : (gb' = gb ∧ gc' = gc) ∧ V5 = .slice (some ⟨gb, 0, none⟩) 2 gc := by
    rw [hv] at hv'
    injection hv' with h1 h2 h3
    injection h1 with h1
    injection h1 with h1
    exact ⟨⟨h1.symm, h3.symm⟩, hv⟩
  rw [e1] at q0 q1 q2 q3 q4 q5 q6 q7 q8 q9 q10 q11
  clear e1 e2
  dsimp only [List.getElem_cons_zero, List.getElem_cons_succ] at r0 r1 r2 r3 r4 r5 r6 r7 r8 r9 r10 r11 q0 q1 q2 q3 q4 q5 q6 q7 q8 q9 q10 q11
  rw [← hk1] at r0
  rw [← hx1] at r1
  rw [← hy1] at r2
  rw [← hz1] at r3
  rw [← hk2] at r4
  rw [← hx2] at r5
  rw [← hy2] at r6
  rw [← hz2] at r7
  rw [← hk3] at r8
  rw [← hx3] at r9
  rw [← hy3] at r10
  rw [← hz3] at r11
  rw [← hk4] at q0
  rw [← hx4] at q1
  rw [← hy4] at q2
  rw [← hz4] at q3
  rw [← hk5] at q4
  rw [← hx5] at q5
  rw [← hy5] at q6
  rw [← hz5] at q7
  rw [← hk6] at q8
  rw [← hx6] at q9
  rw [← hy6] at q10
  rw [← hz6] at q11
  have r0 : w5.cell? ⟨gb, 0, none⟩ = some (.int .i64 k1) := r0
  have r1 : w5.cell? ⟨gb, 1, none⟩ = some (.string x1) := r1
  have r2 : w5.cell? ⟨gb, 2, none⟩ = some (.string y1) := r2
  have r3 : w5.cell? ⟨gb, 3, none⟩ = some (.string z1) := r3
  have r4 : w5.cell? ⟨gb, 4, none⟩ = some (.int .i64 k2) := r4
  have r5 : w5.cell? ⟨gb, 5, none⟩ = some (.string x2) := r5
  have r6 : w5.cell? ⟨gb, 6, none⟩ = some (.string y2) := r6
  have r7 : w5.cell? ⟨gb, 7, none⟩ = some (.string z2) := r7
  have r8 : w5.cell? ⟨gb, 8, none⟩ = some (.int .i64 k3) := r8
  have r9 : w5.cell? ⟨gb, 9, none⟩ = some (.string x3) := r9
  have r10 : w5.cell? ⟨gb, 10, none⟩ = some (.string y3) := r10
  have r11 : w5.cell? ⟨gb, 11, none⟩ = some (.string z3) := r11
  have q0 : w5.cell? ⟨gb, 12, none⟩ = some (.int .i64 k4) := q0
  have q1 : w5.cell? ⟨gb, 13, none⟩ = some (.string x4) := q1
  have q2 : w5.cell? ⟨gb, 14, none⟩ = some (.string y4) := q2
  have q3 : w5.cell? ⟨gb, 15, none⟩ = some (.string z4) := q3
  have q4 : w5.cell? ⟨gb, 16, none⟩ = some (.int .i64 k5) := q4
  have q5 : w5.cell? ⟨gb, 17, none⟩ = some (.string x5) := q5
  have q6 : w5.cell? ⟨gb, 18, none⟩ = some (.string y5) := q6
  have q7 : w5.cell? ⟨gb, 19, none⟩ = some (.string z5) := q7
  have q8 : w5.cell? ⟨gb, 20, none⟩ = some (.int .i64 k6) := q8
  have q9 : w5.cell? ⟨gb, 21, none⟩ = some (.string x6) := q9
  have q10 : w5.cell? ⟨gb, 22, none⟩ = some (.string y6) := q10
  have q11 : w5.cell? ⟨gb, 23, none⟩ = some (.string z6) := q11
  clear hv hv' hgb hgb' hrow hk1 hx1 hy1 hz1 hk2 hx2 hy2 hz2 hk3 hx3 hy3 hz3 hk4 hx4 hy4 hz4 hk5 hx5 hy5 hz5 hk6 hx6 hy6 hz6
  have HCA := Lib.hid (⟨r0, r1, r2, r3, r4, r5, r6, r7, r8, r9, r10, r11⟩ : _ ∧ _ ∧ _ ∧ _ ∧ _ ∧ _ ∧ _ ∧ _ ∧ _ ∧ _ ∧ _ ∧ _)
  have HCB := Lib.hid (⟨q0, q1, q2, q3, q4, q5, q6, q7, q8, q9, q10, q11⟩ : _ ∧ _ ∧ _ ∧ _ ∧ _ ∧ _ ∧ _ ∧ _ ∧ _ ∧ _ ∧ _ ∧ _)
  go_wp2_with fail
  go_quiet (fail)
  clear r0 r1 r2 r3 r4 r5 r6 r7 r8 r9 r10 r11 q0 q1 q2 q3 q4 q5 q6 q7 q8 q9 q10 q11
  obtain ⟨w6, hw6⟩ : ∃ w6, w6 = w5.drewN nq := ⟨_, rfl⟩
  have HB6 : Hid (Below w5.heap.size w5 w6) := Lib.hid (by rw [hw6]; exact below_drewN (Below.refl _ _) nq)
  rw [← hw6]
  clear hw6
  go_wp2_with fail
  go_loopw [7, 49] (fun W i wr => ∃ k : Nat, k ≤ 3 ∧ i = .int .i64 k ∧ W = .int .i64 (orV ([o1, o2, o3].take k)) ∧ Hid (Below w5.heap.size w5 wr)) (fun _ i _ => 3 - (intOf i).toNat)
  case atStart => exact ⟨0, by omega, rfl, rfl, HB6⟩
  case round =>
    obtain ⟨k, hk, rfl, rfl, HBR⟩ := hrel
    by_cases h3 : k = 3
    · subst h3
      have HF := Lib.hid (kept12o HCA.out HBR.out)
      have HG := Lib.hid (kept12o HCB.out HBR.out)
      have HBF := Lib.hid (HB5.out.trans (HBR.out.mono HB5.out.size))
      have hRR : orV ([o1, o2, o3].take 3) = R := HR0.out.symm
      rw [hRR]
      have hng := neg_i64 HTV.out
      obtain ⟨c0, c1, c2, c3, c4, c5, c6, c7, c8, c9, c10, c11⟩ := HF.out
      obtain ⟨f0, f1, f2, f3, f4, f5, f6, f7, f8, f9, f10, f11⟩ := HG.out
      clear hRR
      go_wp2_with fail
      clear c0 c1 c2 c3 c4 c5 c6 c7 c8 c9 c10 c11 f0 f1 f2 f3 f4 f5 f6 f7 f8 f9 f10 f11
      refine wp_region_held_drew (S := (fun w' => (w'.cell? ⟨gb, 0, none⟩ = some (.int .i64 k1) ∧ w'.cell? ⟨gb, 1, none⟩ = some (.string x1) ∧ w'.cell? ⟨gb, 2, none⟩ = some (.string y1) ∧ w'.cell? ⟨gb, 3, none⟩ = some (.string z1) ∧ w'.cell? ⟨gb, 4, none⟩ = some (.int .i64 k2) ∧ w'.cell? ⟨gb, 5, none⟩ = some (.string x2) ∧ w'.cell? ⟨gb, 6, none⟩ = some (.string y2) ∧ w'.cell? ⟨gb, 7, none⟩ = some (.string z2) ∧ w'.cell? ⟨gb, 8, none⟩ = some (.int .i64 k3) ∧ w'.cell? ⟨gb, 9, none⟩ = some (.string x3) ∧ w'.cell? ⟨gb, 10, none⟩ = some (.string y3) ∧ w'.cell? ⟨gb, 11, none⟩ = some (.string z3)) ∧ (w'.cell? ⟨gb, 12, none⟩ = some (.int .i64 k4) ∧ w'.cell? ⟨gb, 13, none⟩ = some (.string x4) ∧ w'.cell? ⟨gb, 14, none⟩ = some (.string y4) ∧ w'.cell? ⟨gb, 15, none⟩ = some (.string z4) ∧ w'.cell? ⟨gb, 16, none⟩ = some (.int .i64 k5) ∧ w'.cell? ⟨gb, 17, none⟩ = some (.string x5) ∧ w'.cell? ⟨gb, 18, none⟩ = some (.string y5) ∧ w'.cell? ⟨gb, 19, none⟩ = some (.string z5) ∧ w'.cell? ⟨gb, 20, none⟩ = some (.int .i64 k6) ∧ w'.cell? ⟨gb, 21, none⟩ = some (.string x6) ∧ w'.cell? ⟨gb, 22, none⟩ = some (.string y6) ∧ w'.cell? ⟨gb, 23, none⟩ = some (.string z6)))) (by kernel_rfl) ?hSnoq0 (fun hHeld => ?_)
      case hSnoq0 => exact ⟨HF.out, HG.out⟩
      refine wpAnyH_take (i := 0) (oi := ⟨some 68, _, _, _, _, _⟩) (v := ?vnoq0) rfl (by kernel_rfl) (by kernel_rfl) (by kernel_rfl) (fun _ _ _ h => h) (Or.inl ⟨by kernel_rfl, ?ynoq0⟩) (by assumption) ?rnoq0
      case ynoq0 =>
        intro w hSw
        try dsimp only at hSw
        obtain ⟨⟨c0, c1, c2, c3, c4, c5, c6, c7, c8, c9, c10, c11⟩, f0, f1, f2, f3, f4, f5, f6, f7, f8, f9, f10, f11⟩ := hSw
        first | (go_simp; done) | (go_simp; with_reducible rfl)
      try simp only [Act.put, List.setIfInBounds_toArray, List.set_cons_zero, List.set_cons_succ]
      refine wpAnyH_take (i := 1) (oi := ⟨some 69, _, _, _, _, _⟩) (v := ?vnoq1) rfl (by kernel_rfl) (by kernel_rfl) (by kernel_rfl) (fun _ _ _ h => h) (Or.inl ⟨by kernel_rfl, ?ynoq1⟩) (by assumption) ?rnoq1
      case ynoq1 =>
        intro w hSw
        try dsimp only at hSw
        obtain ⟨⟨c0, c1, c2, c3, c4, c5, c6, c7, c8, c9, c10, c11⟩, f0, f1, f2, f3, f4, f5, f6, f7, f8, f9, f10, f11⟩ := hSw
        first | (go_simp; done) | (go_simp; with_reducible rfl)
      try simp only [Act.put, List.setIfInBounds_toArray, List.set_cons_zero, List.set_cons_succ]
      refine wpAnyH_take (i := 2) (oi := ⟨some 70, _, _, _, _, _⟩) (v := ?vnoq2) rfl (by kernel_rfl) (by kernel_rfl) (by kernel_rfl) (fun _ _ _ h => h) (Or.inl ⟨by kernel_rfl, ?ynoq2⟩) (by assumption) ?rnoq2
      case ynoq2 =>
        intro w hSw
        try dsimp only at hSw
        obtain ⟨⟨c0, c1, c2, c3, c4, c5, c6, c7, c8, c9, c10, c11⟩, f0, f1, f2, f3, f4, f5, f6, f7, f8, f9, f10, f11⟩ := hSw
        first | (go_simp; done) | (go_simp; with_reducible rfl)
      try simp only [Act.put, List.setIfInBounds_toArray, List.set_cons_zero, List.set_cons_succ]
      refine wpAnyH_take (i := 4) (oi := ⟨some 72, _, _, _, _, _⟩) (v := ?vnoq4) rfl (by kernel_rfl) (by kernel_rfl) (by kernel_rfl) (fun _ _ _ h => h) (Or.inl ⟨by kernel_rfl, ?ynoq4⟩) (by assumption) ?rnoq4
      case ynoq4 =>
        intro w hSw
        try dsimp only at hSw
        obtain ⟨⟨c0, c1, c2, c3, c4, c5, c6, c7, c8, c9, c10, c11⟩, f0, f1, f2, f3, f4, f5, f6, f7, f8, f9, f10, f11⟩ := hSw
        first | (go_simp; done) | (go_simp; with_reducible rfl)
      try simp only [Act.put, List.setIfInBounds_toArray, List.set_cons_zero, List.set_cons_succ]
      refine wpAnyH_take (i := 5) (oi := ⟨some 73, _, _, _, _, _⟩) (v := ?vnoq5) rfl (by kernel_rfl) (by kernel_rfl) (by kernel_rfl) (fun _ _ _ h => h) (Or.inl ⟨by kernel_rfl, ?ynoq5⟩) (by assumption) ?rnoq5
      case ynoq5 =>
        intro w hSw
        try dsimp only at hSw
        obtain ⟨⟨c0, c1, c2, c3, c4, c5, c6, c7, c8, c9, c10, c11⟩, f0, f1, f2, f3, f4, f5, f6, f7, f8, f9, f10, f11⟩ := hSw
        first | (go_simp; done) | (go_simp; with_reducible rfl)
      try simp only [Act.put, List.setIfInBounds_toArray, List.set_cons_zero, List.set_cons_succ]
      refine wpAnyH_take (i := 6) (oi := ⟨some 74, _, _, _, _, _⟩) (v := ?vnoq6) rfl (by kernel_rfl) (by kernel_rfl) (by kernel_rfl) (fun _ _ _ h => h) (Or.inl ⟨by kernel_rfl, ?ynoq6⟩) (by assumption) ?rnoq6
      case ynoq6 =>
        intro w hSw
        try dsimp only at hSw
        obtain ⟨⟨c0, c1, c2, c3, c4, c5, c6, c7, c8, c9, c10, c11⟩, f0, f1, f2, f3, f4, f5, f6, f7, f8, f9, f10, f11⟩ := hSw
        first | (go_simp; done) | (go_simp; with_reducible rfl)
      try simp only [Act.put, List.setIfInBounds_toArray, List.set_cons_zero, List.set_cons_succ]
      refine wpAnyH_take (i := 9) (oi := ⟨some 77, _, _, _, _, _⟩) (v := ?vnoq9) rfl (by kernel_rfl) (by kernel_rfl) (by kernel_rfl) (fun _ _ _ h => h) (Or.inl ⟨by kernel_rfl, ?ynoq9⟩) (by assumption) ?rnoq9
      case ynoq9 =>
        intro w hSw
        try dsimp only at hSw
        obtain ⟨⟨c0, c1, c2, c3, c4, c5, c6, c7, c8, c9, c10, c11⟩, f0, f1, f2, f3, f4, f5, f6, f7, f8, f9, f10, f11⟩ := hSw
        first | (go_simp; done) | (go_simp; with_reducible rfl)
      try simp only [Act.put, List.setIfInBounds_toArray, List.set_cons_zero, List.set_cons_succ]
      refine wpAnyH_ready (rs := [3]) (by kernel_rfl) (by simp) ?_
      refine AllReadyH.cons (i := 3) (o := ⟨some 71, _, _, _, _, _⟩) rfl (fun K hK => ?_) AllReadyH.nil
      go_simp
      refine (HRA.out _).mono ?_
      rintro e z1 ⟨rfl, hb1⟩
      have G1 := Lib.hid (HBF.out.drew.trans (hb1.mono HBF.out.drew.size))
      go_wp2_with fail
      refine hK.out _ _ ?_ (fun hHeld => ?_)
      · exact ⟨kept12o hHeld.1 hb1, kept12o hHeld.2 hb1⟩
      clear hK K
      try simp only [Act.put, List.setIfInBounds_toArray, List.set_cons_zero, List.set_cons_succ]
      refine wpAnyH_ready (rs := [7]) (by kernel_rfl) (by simp) ?_
      refine AllReadyH.cons (i := 7) (o := ⟨some 75, _, _, _, _, _⟩) rfl (fun K hK => ?_) AllReadyH.nil
      go_simp
      refine (HRB.out _).mono ?_
      rintro e z2 ⟨rfl, hb2⟩
      have G2 := Lib.hid (G1.out.trans (hb2.mono G1.out.size))
      go_wp2_with fail
      refine hK.out _ _ ?_ (fun hHeld => ?_)
      · exact ⟨kept12o hHeld.1 hb2, kept12o hHeld.2 hb2⟩
      clear hK K
      try simp only [Act.put, List.setIfInBounds_toArray, List.set_cons_zero, List.set_cons_succ]
      refine wpAnyH_ready (rs := [8]) (by kernel_rfl) (by simp) ?_
      refine AllReadyH.cons (i := 8) (o := ⟨some 76, _, _, _, _, _⟩) rfl (fun K hK => ?_) AllReadyH.nil
      go_simp
      refine (HO1.out _).mono ?_
      rintro e z3 ⟨rfl, hb3⟩
      have G3 := Lib.hid (G2.out.trans (hb3.mono G2.out.size))
      go_wp2_with fail
      refine hK.out _ _ ?_ (fun hHeld => ?_)
      · exact ⟨kept12o hHeld.1 hb3, kept12o hHeld.2 hb3⟩
      clear hK K
      try simp only [Act.put, List.setIfInBounds_toArray, List.set_cons_zero, List.set_cons_succ]
      refine wpAnyH_take (i := 10) (oi := ⟨some 78, _, _, _, _, _⟩) (v := ?vnoq10) rfl (by kernel_rfl) (by kernel_rfl) (by kernel_rfl) (fun _ _ _ h => h) (Or.inl ⟨by kernel_rfl, ?ynoq10⟩) (by assumption) ?rnoq10
      case ynoq10 =>
        intro w hSw
        try dsimp only at hSw
        obtain ⟨⟨c0, c1, c2, c3, c4, c5, c6, c7, c8, c9, c10, c11⟩, f0, f1, f2, f3, f4, f5, f6, f7, f8, f9, f10, f11⟩ := hSw
        first | (go_simp; done) | (go_simp; with_reducible rfl)
      try simp only [Act.put, List.setIfInBounds_toArray, List.set_cons_zero, List.set_cons_succ]
      refine wpAnyH_take (i := 11) (oi := ⟨some 79, _, _, _, _, _⟩) (v := ?vnoq11) rfl (by kernel_rfl) (by kernel_rfl) (by kernel_rfl) (fun _ _ _ h => h) (Or.inl ⟨by kernel_rfl, ?ynoq11⟩) (by assumption) ?rnoq11
      case ynoq11 =>
        intro w hSw
        try dsimp only at hSw
        obtain ⟨⟨c0, c1, c2, c3, c4, c5, c6, c7, c8, c9, c10, c11⟩, f0, f1, f2, f3, f4, f5, f6, f7, f8, f9, f10, f11⟩ := hSw
        first | (go_simp; done) | (go_simp; with_reducible rfl)
      try simp only [Act.put, List.setIfInBounds_toArray, List.set_cons_zero, List.set_cons_succ]
      refine wpAnyH_take (i := 12) (oi := ⟨some 80, _, _, _, _, _⟩) (v := ?vnoq12) rfl (by kernel_rfl) (by kernel_rfl) (by kernel_rfl) (fun _ _ _ h => h) (Or.inl ⟨by kernel_rfl, ?ynoq12⟩) (by assumption) ?rnoq12
      case ynoq12 =>
        intro w hSw
        try dsimp only at hSw
        obtain ⟨⟨c0, c1, c2, c3, c4, c5, c6, c7, c8, c9, c10, c11⟩, f0, f1, f2, f3, f4, f5, f6, f7, f8, f9, f10, f11⟩ := hSw
        first | (go_simp; done) | (go_simp; with_reducible rfl)
      try simp only [Act.put, List.setIfInBounds_toArray, List.set_cons_zero, List.set_cons_succ]
      refine wpAnyH_take (i := 13) (oi := ⟨some 81, _, _, _, _, _⟩) (v := ?vnoq13) rfl (by kernel_rfl) (by kernel_rfl) (by kernel_rfl) (fun _ _ _ h => h) (Or.inl ⟨by kernel_rfl, ?ynoq13⟩) (by assumption) ?rnoq13
      case ynoq13 =>
        intro w hSw
        try dsimp only at hSw
        obtain ⟨⟨c0, c1, c2, c3, c4, c5, c6, c7, c8, c9, c10, c11⟩, f0, f1, f2, f3, f4, f5, f6, f7, f8, f9, f10, f11⟩ := hSw
        first | (go_simp; done) | (go_simp; with_reducible rfl)
      try simp only [Act.put, List.setIfInBounds_toArray, List.set_cons_zero, List.set_cons_succ]
      refine wpAnyH_take (i := 14) (oi := ⟨some 82, _, _, _, _, _⟩) (v := ?vnoq14) rfl (by kernel_rfl) (by kernel_rfl) (by kernel_rfl) (fun _ _ _ h => h) (Or.inl ⟨by kernel_rfl, ?ynoq14⟩) (by assumption) ?rnoq14
      case ynoq14 =>
        intro w hSw
        try dsimp only at hSw
        obtain ⟨⟨c0, c1, c2, c3, c4, c5, c6, c7, c8, c9, c10, c11⟩, f0, f1, f2, f3, f4, f5, f6, f7, f8, f9, f10, f11⟩ := hSw
        first | (go_simp; done) | (go_simp; with_reducible rfl)
      try simp only [Act.put, List.setIfInBounds_toArray, List.set_cons_zero, List.set_cons_succ]
      refine wpAnyH_take (i := 16) (oi := ⟨some 84, _, _, _, _, _⟩) (v := ?vnoq16) rfl (by kernel_rfl) (by kernel_rfl) (by kernel_rfl) (fun _ _ _ h => h) (Or.inl ⟨by kernel_rfl, ?ynoq16⟩) (by assumption) ?rnoq16
      case ynoq16 =>
        intro w hSw
        try dsimp only at hSw
        obtain ⟨⟨c0, c1, c2, c3, c4, c5, c6, c7, c8, c9, c10, c11⟩, f0, f1, f2, f3, f4, f5, f6, f7, f8, f9, f10, f11⟩ := hSw
        first | (go_simp; done) | (go_simp; with_reducible rfl)
      try simp only [Act.put, List.setIfInBounds_toArray, List.set_cons_zero, List.set_cons_succ]
      refine wpAnyH_take (i := 17) (oi := ⟨some 85, _, _, _, _, _⟩) (v := ?vnoq17) rfl (by kernel_rfl) (by kernel_rfl) (by kernel_rfl) (fun _ _ _ h => h) (Or.inl ⟨by kernel_rfl, ?ynoq17⟩) (by assumption) ?rnoq17
      case ynoq17 =>
        intro w hSw
        try dsimp only at hSw
        obtain ⟨⟨c0, c1, c2, c3, c4, c5, c6, c7, c8, c9, c10, c11⟩, f0, f1, f2, f3, f4, f5, f6, f7, f8, f9, f10, f11⟩ := hSw
        first | (go_simp; done) | (go_simp; with_reducible rfl)
      try simp only [Act.put, List.setIfInBounds_toArray, List.set_cons_zero, List.set_cons_succ]
      refine wpAnyH_take (i := 18) (oi := ⟨some 86, _, _, _, _, _⟩) (v := ?vnoq18) rfl (by kernel_rfl) (by kernel_rfl) (by kernel_rfl) (fun _ _ _ h => h) (Or.inl ⟨by kernel_rfl, ?ynoq18⟩) (by assumption) ?rnoq18
      case ynoq18 =>
        intro w hSw
        try dsimp only at hSw
        obtain ⟨⟨c0, c1, c2, c3, c4, c5, c6, c7, c8, c9, c10, c11⟩, f0, f1, f2, f3, f4, f5, f6, f7, f8, f9, f10, f11⟩ := hSw
        first | (go_simp; done) | (go_simp; with_reducible rfl)
      try simp only [Act.put, List.setIfInBounds_toArray, List.set_cons_zero, List.set_cons_succ]
      refine wpAnyH_take (i := 21) (oi := ⟨some 89, _, _, _, _, _⟩) (v := ?vnoq21) rfl (by kernel_rfl) (by kernel_rfl) (by kernel_rfl) (fun _ _ _ h => h) (Or.inl ⟨by kernel_rfl, ?ynoq21⟩) (by assumption) ?rnoq21
      case ynoq21 =>
        intro w hSw
        try dsimp only at hSw
        obtain ⟨⟨c0, c1, c2, c3, c4, c5, c6, c7, c8, c9, c10, c11⟩, f0, f1, f2, f3, f4, f5, f6, f7, f8, f9, f10, f11⟩ := hSw
        first | (go_simp; done) | (go_simp; with_reducible rfl)
      try simp only [Act.put, List.setIfInBounds_toArray, List.set_cons_zero, List.set_cons_succ]
      refine wpAnyH_take (i := 22) (oi := ⟨some 90, _, _, _, _, _⟩) (v := ?vnoq22) rfl (by kernel_rfl) (by kernel_rfl) (by kernel_rfl) (fun _ _ _ h => h) (Or.inl ⟨by kernel_rfl, ?ynoq22⟩) (by assumption) ?rnoq22
      case ynoq22 =>
        intro w hSw
        try dsimp only at hSw
        obtain ⟨⟨c0, c1, c2, c3, c4, c5, c6, c7, c8, c9, c10, c11⟩, f0, f1, f2, f3, f4, f5, f6, f7, f8, f9, f10, f11⟩ := hSw
        first | (go_simp; done) | (go_simp; with_reducible rfl)
      try simp only [Act.put, List.setIfInBounds_toArray, List.set_cons_zero, List.set_cons_succ]
      refine wpAnyH_ready (rs := [15]) (by kernel_rfl) (by simp) ?_
      refine AllReadyH.cons (i := 15) (o := ⟨some 83, _, _, _, _, _⟩) rfl (fun K hK => ?_) AllReadyH.nil
      go_simp
      refine (HRB.out _).mono ?_
      rintro e z4 ⟨rfl, hb4⟩
      have G4 := Lib.hid (G3.out.trans (hb4.mono G3.out.size))
      go_wp2_with fail
      refine hK.out _ _ ?_ (fun hHeld => ?_)
      · exact ⟨kept12o hHeld.1 hb4, kept12o hHeld.2 hb4⟩
      clear hK K
      try simp only [Act.put, List.setIfInBounds_toArray, List.set_cons_zero, List.set_cons_succ]
      refine wpAnyH_ready (rs := [19]) (by kernel_rfl) (by simp) ?_
      refine AllReadyH.cons (i := 19) (o := ⟨some 87, _, _, _, _, _⟩) rfl (fun K hK => ?_) AllReadyH.nil
      go_simp
      refine (HRA.out _).mono ?_
      rintro e z5 ⟨rfl, hb5⟩
      have G5 := Lib.hid (G4.out.trans (hb5.mono G4.out.size))
      go_wp2_with fail
      refine hK.out _ _ ?_ (fun hHeld => ?_)
      · exact ⟨kept12o hHeld.1 hb5, kept12o hHeld.2 hb5⟩
      clear hK K
      try simp only [Act.put, List.setIfInBounds_toArray, List.set_cons_zero, List.set_cons_succ]
      refine wpAnyH_ready (rs := [20]) (by kernel_rfl) (by simp) ?_
      refine AllReadyH.cons (i := 20) (o := ⟨some 88, _, _, _, _, _⟩) rfl (fun K hK => ?_) AllReadyH.nil
      go_simp
      refine (HO2.out _).mono ?_
      rintro e z6 ⟨rfl, hb6⟩
      have G6 := Lib.hid (G5.out.trans (hb6.mono G5.out.size))
      go_wp2_with fail
      refine hK.out _ _ ?_ (fun hHeld => ?_)
      · exact ⟨kept12o hHeld.1 hb6, kept12o hHeld.2 hb6⟩
      clear hK K
      try simp only [Act.put, List.setIfInBounds_toArray, List.set_cons_zero, List.set_cons_succ]
      refine wpAnyH_take (i := 23) (oi := ⟨some 91, _, _, _, _, _⟩) (v := ?vnoq23) rfl (by kernel_rfl) (by kernel_rfl) (by kernel_rfl) (fun _ _ _ h => h) (Or.inl ⟨by kernel_rfl, ?ynoq23⟩) (by assumption) ?rnoq23
      case ynoq23 =>
        intro w hSw
        try dsimp only at hSw
        obtain ⟨⟨c0, c1, c2, c3, c4, c5, c6, c7, c8, c9, c10, c11⟩, f0, f1, f2, f3, f4, f5, f6, f7, f8, f9, f10, f11⟩ := hSw
        first | (go_simp; done) | (go_simp; with_reducible rfl)
      try simp only [Act.put, List.setIfInBounds_toArray, List.set_cons_zero, List.set_cons_succ]
      refine wpAnyH_take (i := 24) (oi := ⟨some 92, _, _, _, _, _⟩) (v := ?vnoq24) rfl (by kernel_rfl) (by kernel_rfl) (by kernel_rfl) (fun _ _ _ h => h) (Or.inl ⟨by kernel_rfl, ?ynoq24⟩) (by assumption) ?rnoq24
      case ynoq24 =>
        intro w hSw
        try dsimp only at hSw
        obtain ⟨⟨c0, c1, c2, c3, c4, c5, c6, c7, c8, c9, c10, c11⟩, f0, f1, f2, f3, f4, f5, f6, f7, f8, f9, f10, f11⟩ := hSw
        first | (go_simp; done) | (go_simp; with_reducible rfl)
      try simp only [Act.put, List.setIfInBounds_toArray, List.set_cons_zero, List.set_cons_succ]
      refine wpAnyH_take (i := 25) (oi := ⟨some 4, _, _, _, _, _⟩) (v := ?vnoq25) rfl (by kernel_rfl) (by kernel_rfl) (by kernel_rfl) (fun _ _ _ h => h) (Or.inl ⟨by kernel_rfl, ?ynoq25⟩) (by assumption) ?rnoq25
      case ynoq25 =>
        intro w hSw
        try dsimp only at hSw
        obtain ⟨⟨c0, c1, c2, c3, c4, c5, c6, c7, c8, c9, c10, c11⟩, f0, f1, f2, f3, f4, f5, f6, f7, f8, f9, f10, f11⟩ := hSw
        first | (go_simp; done) | (go_simp; with_reducible rfl)
      try simp only [Act.put, List.setIfInBounds_toArray, List.set_cons_zero, List.set_cons_succ]
      refine wpAnyH_done (by kernel_rfl) ?_ _
      go_wp2_with fail
      go_ret
      exact ⟨by simp, G6.out⟩
    · obtain ⟨p0, p1, p2, p3, v0, v1, v2, v3, o, hidx, HL, HM, hov, hor⟩ : ∃ (p0 : Int) (p1 p2 p3 : ByteArray) (v0 : Int) (v1 v2 v3 : ByteArray) (o : Int),
          (∀ w, (Instr.index 58 (.agg #[.int .i64 k1, .string x1, .string y1, .string z1, .int .i64 k4, .string x4, .string y4, .string z4, .int .i64 k2, .string x2, .string y2, .string z2, .int .i64 k5, .string x5, .string y5, .string z5, .int .i64 k3, .string x3, .string y3, .string z3, .int .i64 k6, .string x6, .string y6, .string z6]) (.int .i64 (k : Int))).run Tryd.prog w = .ok (.agg #[.int .i64 p0, .string p1, .string p2, .string p3, .int .i64 v0, .string v1, .string v2, .string v3]) w) ∧
          Hid (∀ w, Calls Tryd.prog 21 #[.agg #[.int .i64 p0, .string p1, .string p2, .string p3], .agg #[.int .i64 v0, .string v1, .string v2, .string v3]] w fun e w' => e = .returned (.bool (decide (o = -1))) ∧ Below w.heap.size w w') ∧
          Hid (∀ w, Calls Tryd.prog 21 #[.agg #[.int .i64 v0, .string v1, .string v2, .string v3], .agg #[.int .i64 p0, .string p1, .string p2, .string p3]] w fun e w' => e = .returned (.bool (decide (o = 1))) ∧ Below w.heap.size w w') ∧
          (o = -1 ∨ o = 0 ∨ o = 1) ∧ orV ([o1, o2, o3].take (k + 1)) = (if orV ([o1, o2, o3].take k) = 0 then o else orV ([o1, o2, o3].take k)) := by
        rcases (by omega : k = 0 ∨ k = 1 ∨ k = 2) with rfl | rfl | rfl
        · exact ⟨k1, x1, y1, z1, k4, x4, y4, z4, o1, fun _ => by kernel_rfl, HL1, HM1, HOV.out.1, orV_step [] o1⟩
        · exact ⟨k2, x2, y2, z2, k5, x5, y5, z5, o2, fun _ => by kernel_rfl, HL2, HM2, HOV.out.2.1, orV_step [o1] o2⟩
        · exact ⟨k3, x3, y3, z3, k6, x6, y6, z6, o3, fun _ => by kernel_rfl, HL3, HM3, HOV.out.2.2, orV_step [o1, o2] o3⟩
      have b1 : decide ((k : Int) < 3) = true := decide_eq_true (by omega)
      have HOR := Lib.hid hor
      have HK3 : Hid (k + 1 ≤ 3) := Lib.hid (by omega)
      clear hor h3
      obtain ⟨c, hc⟩ : ∃ c, c = orV ([o1, o2, o3].take k) := ⟨_, rfl⟩
      rw [← hc] at HOR ⊢
      clear hc
      by_cases hc0 : c = 0
      · subst hc0
        rcases hov with rfl | rfl | rfl
        · have HOR2 : Hid (orV ([o1, o2, o3].take (k + 1)) = -1) := Lib.hid (by rw [HOR.out]; rfl)
          rw [show decide ((-1 : Int) = -1) = true from rfl] at HL
          clear HOR HM
          go_wp2_with fail
          refine (HL.out _).mono ?_
          rintro e w8 ⟨rfl, hb8⟩
          have HB8 := Lib.hid (HBR.out.trans (((alloc_belowO _ _).trans (hb8.mono (alloc_belowO _ _).size)).mono HBR.out.size))
          clear hb8
          go_wp2_with fail
          go_round
          case measure => simp only [intOf]; have := HK3.out; omega
          case rel => exact ⟨k + 1, HK3.out, by push_cast; rfl, by rw [HOR2.out], HB8⟩
        · have HOR2 : Hid (orV ([o1, o2, o3].take (k + 1)) = 0) := Lib.hid (by rw [HOR.out]; rfl)
          rw [show decide ((0 : Int) = -1) = false from rfl] at HL
          rw [show decide ((0 : Int) = 1) = false from rfl] at HM
          clear HOR
          obtain ⟨W8, hW8⟩ : ∃ W8, W8 = wr.alloc (.cells #[.int .i64 p0, .string p1, .string p2, .string p3, .int .i64 v0, .string v1, .string v2, .string v3] 57) := ⟨_, rfl⟩
          have HBX : Hid (Below wr.heap.size wr W8) := Lib.hid (by rw [hW8]; exact alloc_belowO _ _)
          have HX8 : Hid (W8.heap[wr.heap.size]? = some (.cells #[.int .i64 p0, .string p1, .string p2, .string p3, .int .i64 v0, .string v1, .string v2, .string v3] 57 (0, 0))) := Lib.hid (by rw [hW8]; exact blk_newO wr _ _)
          have HW8 := Lib.hid hW8
          clear hW8
          go_wp2_with fail
          rw [← HW8.out]
          refine (HL.out _).mono ?_
          rintro e w8 ⟨rfl, hb8⟩
          have HX9 := Lib.hid (boxb HX8.out hb8)
          obtain ⟨c0, c1, c2, c3, c4, c5, c6, c7⟩ := cells8 HX9.out
          have HB8 := Lib.hid (HBR.out.trans ((HBX.out.trans (hb8.mono HBX.out.size)).mono HBR.out.size))
          clear hb8
          go_wp2_with fail
          refine (HM.out _).mono ?_
          rintro e w9 ⟨rfl, hb9⟩
          have HB9 := Lib.hid (HB8.out.trans (hb9.mono HB8.out.size))
          clear hb9
          go_wp2_with fail
          go_round
          case measure => simp only [intOf]; have := HK3.out; omega
          case rel => exact ⟨k + 1, HK3.out, by push_cast; rfl, by rw [HOR2.out], HB9⟩
        · have HOR2 : Hid (orV ([o1, o2, o3].take (k + 1)) = 1) := Lib.hid (by rw [HOR.out]; rfl)
          rw [show decide ((1 : Int) = -1) = false from rfl] at HL
          rw [show decide ((1 : Int) = 1) = true from rfl] at HM
          clear HOR
          obtain ⟨W8, hW8⟩ : ∃ W8, W8 = wr.alloc (.cells #[.int .i64 p0, .string p1, .string p2, .string p3, .int .i64 v0, .string v1, .string v2, .string v3] 57) := ⟨_, rfl⟩
          have HBX : Hid (Below wr.heap.size wr W8) := Lib.hid (by rw [hW8]; exact alloc_belowO _ _)
          have HX8 : Hid (W8.heap[wr.heap.size]? = some (.cells #[.int .i64 p0, .string p1, .string p2, .string p3, .int .i64 v0, .string v1, .string v2, .string v3] 57 (0, 0))) := Lib.hid (by rw [hW8]; exact blk_newO wr _ _)
          have HW8 := Lib.hid hW8
          clear hW8
          go_wp2_with fail
          rw [← HW8.out]
          refine (HL.out _).mono ?_
          rintro e w8 ⟨rfl, hb8⟩
          have HX9 := Lib.hid (boxb HX8.out hb8)
          obtain ⟨c0, c1, c2, c3, c4, c5, c6, c7⟩ := cells8 HX9.out
          have HB8 := Lib.hid (HBR.out.trans ((HBX.out.trans (hb8.mono HBX.out.size)).mono HBR.out.size))
          clear hb8
          go_wp2_with fail
          refine (HM.out _).mono ?_
          rintro e w9 ⟨rfl, hb9⟩
          have HB9 := Lib.hid (HB8.out.trans (hb9.mono HB8.out.size))
          clear hb9
          go_wp2_with fail
          go_round
          case measure => simp only [intOf]; have := HK3.out; omega
          case rel => exact ⟨k + 1, HK3.out, by push_cast; rfl, by rw [HOR2.out], HB9⟩
      · have HOR2 : Hid (orV ([o1, o2, o3].take (k + 1)) = c) := Lib.hid (by rw [HOR.out, if_neg hc0])
        have t5 : (c != 0) = true := by simpa using hc0
        clear HOR HL HM hc0
        go_wp2_with fail
        go_round
        case measure => simp only [intOf]; have := HK3.out; omega
        case rel => exact ⟨k + 1, HK3.out, by push_cast; rfl, by rw [HOR2.out], Lib.hid (HBR.out.alloc HBR.out.size _)⟩
end Go.Proofs.YtbchkhjkajagfaaDoor
