/- Contracts of beckref02's Neg and Add over this seat's program. -/
import Derived.Test.YtfpelhacbmggeaaBig4
import Derived.Deep.RegionHeld3
namespace Go.Proofs.Ytfpelhacbmggeaa
open Go.RowKit
theorem big_parts {w : World} {v : Value} {N : Int} (h : BigV w v N) : ∃ a cap ds, v = .agg #[.bool (decide (N < 0)), .slice a ds.length cap] ∧ ds.length ≤ cap ∧ cap ≤ 9223372036854775807 ∧ DigA w a ds ∧ Good ds ∧ Norm ds ∧ val ds = szV N := by
  obtain ⟨s, ds, rfl, ⟨a, cap, rfl, h1, h2, h3⟩, h4⟩ := h
  exact ⟨a, cap, ds, rfl, h1, h2, h3, h4⟩
theorem neg_eq (N : Int) : numV (!decide (N < 0)) (szV N) = -N := by
  unfold numV szV
  by_cases h : N < 0
  · rw [decide_eq_true h, if_pos h]; rfl
  · rw [decide_eq_false h, if_neg h]; rfl
theorem two_cells {w : World} {b : Nat} {x y x0 y0 : Value} (h0 : w.cell? ⟨b, 0, none⟩ = some x0) (h1 : w.cell? ⟨b, 1, none⟩ = some y0) :
    ((w.setCell ⟨b, 0, none⟩ x).setCell ⟨b, 1, none⟩ y).cell? ⟨b, 0, none⟩ = some x ∧ ((w.setCell ⟨b, 0, none⟩ x).setCell ⟨b, 1, none⟩ y).cell? ⟨b, 1, none⟩ = some y :=
  ⟨(World.cell?_setCell_other _ _ _ _ (by simp)).trans (World.cell?_setCell_same _ _ _ h0), World.cell?_setCell_same _ _ _ ((World.cell?_setCell_other _ _ _ _ (by simp)).trans h1)⟩
set_option maxHeartbeats 1600000 in
theorem bneg_any (N : Int) (u : Value) (w : World) (hN : szV N < ten 60) (hu : BigV w u N) :
    Calls Try.prog 20 #[u] w (BigRes w (-N)) := by
  obtain ⟨a, cap, ds, rfl, c1, c2, hd, hg, hn, hv⟩ := big_parts hu
  have hl : ds.length ≤ 60 := len_le hg hn (by rw [hv]; exact hN)
  have HD := Lib.hid hd; have HG := Lib.hid hg; have HV := Lib.hid hv
  clear hd hg hn hv hu hN
  go_enter Try.func20, Try.ntmps20
  go_wp2_with fail
  obtain ⟨w2, h2⟩ : ∃ w2, w2 = (w.alloc (.cells #[.bool (decide (N < 0)), .slice a ds.length cap] 35)).alloc (.cells #[.bool false, .slice none 0 0] 35) := ⟨_, rfl⟩
  have t0 : w2.cell? ⟨w.heap.size + 1, 0, none⟩ = some (.bool false) := by rw [h2]; simp [go_sem]
  have t1 : w2.cell? ⟨w.heap.size + 1, 1, none⟩ = some (.slice none 0 0) := by rw [h2]; simp [go_sem]
  have t2 : w2.frozen? ⟨w.heap.size + 1, 0, none⟩ = false := by rw [h2]; simp [go_sem]
  have t3 : w2.frozen? ⟨w.heap.size + 1, 1, none⟩ = false := by rw [h2]; simp [go_sem]
  have z : Below w.heap.size w w2 := by rw [h2]; go_grown
  rw [← h2]
  clear h2
  refine (trim_any _ a cap ds w2 (by omega) HG.out c1 c2 (digA_below HD.out z)).mono ?_
  rintro e w' ⟨k, hk, rfl, hg, hn, hv, hb⟩
  rw [HV.out, neg_eq] at hv ⊢
  obtain ⟨sn, hsn⟩ : ∃ sn, sn = decide (-N < 0) := ⟨_, rfl⟩
  rw [← hsn]
  have HSN := Lib.hid hsn
  clear hsn
  have s0 := cell_below t0 hb
  have s1 := cell_below t1 hb
  have s2 := (hb.frozen (block_lt_of_cell t0)).trans t2
  have s3 := (hb.frozen (block_lt_of_cell t1)).trans t3
  have zz := z.trans (hb.mono z.size)
  have hG := Lib.hid hg; have hN := Lib.hid hn; have hV := Lib.hid hv
  clear hg hn hv t0 t1 t2 t3 z hb
  go_wp2_with fail
  have hcc := two_cells (x := .bool sn) (y := .slice a k cap) s0 s1
  refine bodyPost_ret (v := .agg #[.bool sn, .slice a k cap]) (by simp [results, Try.results20, go_sem, hcc.1, hcc.2]) rfl ?_
  have zb := (zz.setCell (p := ⟨w.heap.size + 1, 0, none⟩) (by simp) (.bool sn)).setCell (p := ⟨w.heap.size + 1, 1, none⟩) (by simp) (.slice a k cap)
  exact ⟨_, rfl, by rw [HSN.out]; exact bigV_take hk c1 c2 (digA_below HD.out (HSN.out ▸ zb)) hG.out hN.out hV.out, zb⟩
theorem frozen_below {w w' : World} {a : Addr} {v : Value} (h : w.frozen? a = false) (hc : w.cell? a = some v) (hb : Below w.heap.size w w') : w'.frozen? a = false := (hb.frozen (block_lt_of_cell hc)).trans h
theorem digA_own {w : World} {B : Nat} {T : TypeId} {a : Option Addr} {cap : Nat} {ds : List Int} (h : w.ownsRow B T 1 (.slice a ds.length cap) ds.length (ds.map (Value.int .i64))) : ds.length ≤ cap ∧ cap ≤ 9223372036854775807 ∧ DigA w a ds := by
  obtain ⟨a', cap', he, h1, h2, h3⟩ := dig_own h
  cases he
  exact ⟨h1, h2, h3⟩
theorem add_same (X Y : Int) (h : (decide (X < 0) == decide (Y < 0)) = true) : numV (decide (X < 0)) (szV X + szV Y) = X + Y := by
  unfold numV szV
  by_cases h1 : X < 0 <;> by_cases h2 : Y < 0 <;> simp [h1, h2] at h ⊢ <;> omega
theorem add_left (X Y : Int) (h : (decide (X < 0) == decide (Y < 0)) = false) : numV (decide (X < 0)) (szV X - szV Y) = X + Y := by
  unfold numV szV
  by_cases h1 : X < 0 <;> by_cases h2 : Y < 0 <;> simp [h1, h2] at h ⊢ <;> omega
theorem add_right (X Y : Int) (h : (decide (X < 0) == decide (Y < 0)) = false) : numV (decide (Y < 0)) (szV Y - szV X) = X + Y := by
  unfold numV szV
  by_cases h1 : X < 0 <;> by_cases h2 : Y < 0 <;> simp [h1, h2] at h ⊢ <;> omega
theorem kept_add {w w1 w2 : World} {a b : Addr} {a' b' : Addr} {x y x' y' : Value} (h : w1.cell? a = some x ∧ w1.cell? a' = some x' ∧ w1.cell? b = some y ∧ w1.cell? b' = some y' ∧ Below w.heap.size w w1) (hb : Below w1.heap.size w1 w2) :
    w2.cell? a = some x ∧ w2.cell? a' = some x' ∧ w2.cell? b = some y ∧ w2.cell? b' = some y' ∧ Below w.heap.size w w2 :=
  ⟨cell_below h.1 hb, cell_below h.2.1 hb, cell_below h.2.2.1 hb, cell_below h.2.2.2.1 hb, h.2.2.2.2.trans (hb.mono h.2.2.2.2.size)⟩
theorem kept_add_set {w w1 : World} {a b c d : Addr} {a' b' : Addr} {x y x' y' u v : Value} (h : w1.cell? a = some x ∧ w1.cell? a' = some x' ∧ w1.cell? b = some y ∧ w1.cell? b' = some y' ∧ Below w.heap.size w w1) (e1 : a.block < c.block := by first | (simp; done) | (simp; omega)) (e2 : a'.block < c.block := by first | (simp; done) | (simp; omega)) (e3 : b.block < c.block := by first | (simp; done) | (simp; omega)) (e4 : b'.block < c.block := by first | (simp; done) | (simp; omega)) (e5 : c.block = d.block := by first | (simp; done) | (simp; omega)) (e6 : w.heap.size ≤ c.block := by first | (simp; done) | (simp; omega)) :
    ((w1.setCell c u).setCell d v).cell? a = some x ∧ ((w1.setCell c u).setCell d v).cell? a' = some x' ∧ ((w1.setCell c u).setCell d v).cell? b = some y ∧ ((w1.setCell c u).setCell d v).cell? b' = some y' ∧ Below w.heap.size w ((w1.setCell c u).setCell d v) := by
  have k : ∀ p : Addr, p.block < c.block → ((w1.setCell c u).setCell d v).cell? p = w1.cell? p := fun p hp =>
    (World.cell?_setCell_other _ _ _ _ (fun e => by rw [← e, ← e5] at hp; omega)).trans (World.cell?_setCell_other _ _ _ _ (fun e => by rw [← e] at hp; omega))
  exact ⟨(k _ e1).trans h.1, (k _ e2).trans h.2.1, (k _ e3).trans h.2.2.1, (k _ e4).trans h.2.2.2.1, (h.2.2.2.2.setCell e6 u).setCell (e5 ▸ e6) v⟩
theorem add_end {w wf : World} {B : Nat} {T : TypeId} {N M : Int} {ap : Option Addr} {cp k : Nat} {os : List Int} (hk : k ≤ os.length) (hO : wf.ownsRow B T 1 (.slice ap os.length cp) os.length (os.map (Value.int .i64)))
    (hg : Good (os.take k)) (hn : Norm (os.take k)) (hv : val (os.take k) = szV M) (he : M = N) (zz : Below w.heap.size w wf) : BigRes w N (.returned (.agg #[.bool (decide (M < 0)), .slice ap k cp])) wf := by
  subst he
  obtain ⟨h1, h2, h3⟩ := digA_own hO
  exact ⟨_, rfl, bigV_take hk h1 h2 h3 hg hn hv, zz⟩
set_option maxHeartbeats 3200000 in
theorem badd_any (X Y : Int) (u v : Value) (w : World) (hX : szV X < ten 60) (hY : szV Y < ten 60) (hu : BigV w u X) (hv : BigV w v Y) :
    Calls Try.prog 18 #[u, v] w (BigRes w (X + Y)) := by
  obtain ⟨a, cap, xs, rfl, c1, c2, hd, hg, hn, hvx⟩ := big_parts hu
  obtain ⟨b, cbp, ys, rfl, e1, e2, kd, kg, kn, hvy⟩ := big_parts hv
  have hl : xs.length ≤ 60 := len_le hg hn (by rw [hvx]; exact hX)
  have kl : ys.length ≤ 60 := len_le kg kn (by rw [hvy]; exact hY)
  have HD := Lib.hid hd; have HG := Lib.hid hg; have HN := Lib.hid hn; have HV := Lib.hid hvx
  have KD := Lib.hid kd; have KG := Lib.hid kg; have KN := Lib.hid kn; have KV := Lib.hid hvy
  clear hd hg hn hvx kd kg kn hvy hu hv hX hY
  go_enter Try.func18, Try.ntmps18
  obtain ⟨sx, hsx⟩ : ∃ sx, sx = decide (X < 0) := ⟨_, rfl⟩
  obtain ⟨sy, hsy⟩ : ∃ sy, sy = decide (Y < 0) := ⟨_, rfl⟩
  rw [← hsx, ← hsy]
  have HSX := Lib.hid hsx; have HSY := Lib.hid hsy
  clear hsx hsy
  cases hs : (sx == sy) with
  | true =>
    have HA : Hid (numV sx (szV X + szV Y) = X + Y) := Lib.hid (by rw [HSX.out]; exact add_same X Y (by rw [← HSX.out, ← HSY.out]; exact hs))
    go_wp2_with fail
    obtain ⟨w2, h2⟩ : ∃ w2, w2 = ((w.alloc (.cells #[.bool sx, .slice a xs.length cap] 35)).alloc (.cells #[.bool sy, .slice b ys.length cbp] 35)).alloc (.cells #[.bool false, .slice none 0 0] 35) := ⟨_, rfl⟩
    have p0 : w2.cell? ⟨w.heap.size, 0, none⟩ = some (.bool sx) := by rw [h2]; simp [go_sem]
    have p1 : w2.cell? ⟨w.heap.size, 1, none⟩ = some (.slice a xs.length cap) := by rw [h2]; simp [go_sem]
    have q0 : w2.cell? ⟨w.heap.size + 1, 0, none⟩ = some (.bool sy) := by rw [h2]; simp [go_sem]
    have q1 : w2.cell? ⟨w.heap.size + 1, 1, none⟩ = some (.slice b ys.length cbp) := by rw [h2]; simp [go_sem]
    have t0 : w2.cell? ⟨w.heap.size + 1 + 1, 0, none⟩ = some (.bool false) := by rw [h2]; simp [go_sem]
    have t1 : w2.cell? ⟨w.heap.size + 1 + 1, 1, none⟩ = some (.slice none 0 0) := by rw [h2]; simp [go_sem]
    have t2 : w2.frozen? ⟨w.heap.size + 1 + 1, 0, none⟩ = false := by rw [h2]; simp [go_sem]
    have t3 : w2.frozen? ⟨w.heap.size + 1 + 1, 1, none⟩ = false := by rw [h2]; simp [go_sem]
    have z : Below w.heap.size w w2 := by rw [h2]; go_grown
    have hz3 : w2.heap.size = w.heap.size + 3 := by rw [h2]; simp [go_sem]
    rw [← h2]
    clear h2
    go_region_held3 (fun w' => w'.cell? ⟨w.heap.size, 0, none⟩ = some (.bool sx) ∧ w'.cell? ⟨w.heap.size, 1, none⟩ = some (.slice a xs.length cap) ∧ w'.cell? ⟨w.heap.size + 1, 0, none⟩ = some (.bool sy) ∧ w'.cell? ⟨w.heap.size + 1, 1, none⟩ = some (.slice b ys.length cbp) ∧ Below w.heap.size w w')
      (first | assumption | exact kept_add (by assumption) hb | exact ⟨p0, p1, q0, q1, z⟩ | exact ⟨p0, p1, q0, q1, z.drew⟩ | exact kept_add_set (by assumption))
      (first
       | (go_at_call 32; refine (plus_any a b cap cbp xs ys _ (by omega) (by omega) HG.out KG.out (digA_below HD.out z.drew) (digA_below KD.out z.drew)).mono ?_; rintro e wp ⟨vp, os, rfl, oo, go, vo, lo, hb⟩; obtain ⟨ap, cp, rfl⟩ := own_form oo; have HO := Lib.hid oo; have HGO := Lib.hid go; have HVO := Lib.hid vo; clear oo go vo; have r0 := cell_below (w := w2.drew) t0 hb; have r1 := cell_below (w := w2.drew) t1 hb; have r2 := frozen_below (w := w2.drew) t2 t0 hb; have r3 := frozen_below (w := w2.drew) t3 t1 hb; have hzp : w2.heap.size ≤ wp.heap.size := hb.size)
       | (go_at_call 31; refine (trim_any _ ap cp os wp (by omega) HGO.out (digA_own HO.out).1 (digA_own HO.out).2.1 (digA_own HO.out).2.2).mono ?_; rintro e wt ⟨k, hk, rfl, hg, hn, hv, hb⟩; have s0 := cell_below r0 hb; have s1 := cell_below r1 hb; have s2 := frozen_below r2 r0 hb; have s3 := frozen_below r3 r1 hb))
    have hfl : w.heap.size + 1 + 1 < w2.drew.heap.size := by show _ < w2.heap.size; omega
    obtain ⟨_, _, _, _, zz⟩ := ‹_ ∧ _ ∧ _ ∧ _ ∧ Below w.heap.size w _›
    have hcc := two_cells (x := .bool (decide (numV sx (val os) < 0))) (y := .slice ap k cp) s0 s1
    go_wp2_with fail
    refine bodyPost_ret (v := .agg #[.bool (decide (numV sx (val os) < 0)), .slice ap k cp]) (by simp [results, Try.results18, go_sem, hcc.1, hcc.2]) rfl ?_
    exact add_end hk (ownsRow_setCell_below (ownsRow_setCell_below (ownsRow_below HO.out hb) (a := ⟨w.heap.size + 1 + 1, 0, none⟩) hfl _) (a := ⟨w.heap.size + 1 + 1, 1, none⟩) hfl _) hg hn hv (by rw [HVO.out, HV.out, KV.out]; exact HA.out) zz
  | false =>
    go_wp2_with fail
    obtain ⟨w2, h2⟩ : ∃ w2, w2 = ((w.alloc (.cells #[.bool sx, .slice a xs.length cap] 35)).alloc (.cells #[.bool sy, .slice b ys.length cbp] 35)).alloc (.cells #[.bool false, .slice none 0 0] 35) := ⟨_, rfl⟩
    have p0 : w2.cell? ⟨w.heap.size, 0, none⟩ = some (.bool sx) := by rw [h2]; simp [go_sem]
    have p1 : w2.cell? ⟨w.heap.size, 1, none⟩ = some (.slice a xs.length cap) := by rw [h2]; simp [go_sem]
    have q0 : w2.cell? ⟨w.heap.size + 1, 0, none⟩ = some (.bool sy) := by rw [h2]; simp [go_sem]
    have q1 : w2.cell? ⟨w.heap.size + 1, 1, none⟩ = some (.slice b ys.length cbp) := by rw [h2]; simp [go_sem]
    have t0 : w2.cell? ⟨w.heap.size + 1 + 1, 0, none⟩ = some (.bool false) := by rw [h2]; simp [go_sem]
    have t1 : w2.cell? ⟨w.heap.size + 1 + 1, 1, none⟩ = some (.slice none 0 0) := by rw [h2]; simp [go_sem]
    have t2 : w2.frozen? ⟨w.heap.size + 1 + 1, 0, none⟩ = false := by rw [h2]; simp [go_sem]
    have t3 : w2.frozen? ⟨w.heap.size + 1 + 1, 1, none⟩ = false := by rw [h2]; simp [go_sem]
    have z : Below w.heap.size w w2 := by rw [h2]; go_grown
    have hz3 : w2.heap.size = w.heap.size + 3 := by rw [h2]; simp [go_sem]
    rw [← h2]
    clear h2
    refine (sizes_any a b cap cbp xs ys w2 (by omega) (by omega) HG.out KG.out HN.out KN.out (digA_below HD.out z) (digA_below KD.out z)).mono ?_
    rintro e w' ⟨rfl, n, rfl⟩
    obtain ⟨c, hc⟩ : ∃ c, c = cmpV (val xs) (val ys) := ⟨_, rfl⟩
    rw [← hc]
    obtain ⟨w3, h3⟩ : ∃ w3, w3 = w2.drewN n := ⟨_, rfl⟩
    have hb3 : Below w2.heap.size w2 w3 := by rw [h3]; exact below_drewN (Below.refl _ _) n
    rw [← h3]
    clear h3
    replace t2 := frozen_below t2 t0 hb3
    replace t3 := frozen_below t3 t1 hb3
    replace p0 := cell_below p0 hb3
    replace p1 := cell_below p1 hb3
    replace q0 := cell_below q0 hb3
    replace q1 := cell_below q1 hb3
    replace t0 := cell_below t0 hb3
    replace t1 := cell_below t1 hb3
    replace z := z.trans (hb3.mono z.size)
    replace hz3 : w.heap.size + 3 ≤ w3.heap.size := by have := hb3.size; omega
    clear hb3
    by_cases h0 : 0 ≤ c
    · have HLE : Hid (val ys ≤ val xs) := Lib.hid (by rw [hc] at h0; unfold cmpV at h0; split at h0 <;> omega)
      have HA : Hid (numV sx (szV X - szV Y) = X + Y) := Lib.hid (by rw [HSX.out]; exact add_left X Y (by rw [← HSX.out, ← HSY.out]; exact hs))
      clear hc
      go_wp2_with fail
      go_region_held3 (fun w' => w'.cell? ⟨w.heap.size, 0, none⟩ = some (.bool sx) ∧ w'.cell? ⟨w.heap.size, 1, none⟩ = some (.slice a xs.length cap) ∧ w'.cell? ⟨w.heap.size + 1, 0, none⟩ = some (.bool sy) ∧ w'.cell? ⟨w.heap.size + 1, 1, none⟩ = some (.slice b ys.length cbp) ∧ Below w.heap.size w w')
        (first | assumption | exact kept_add (by assumption) hb | exact ⟨p0, p1, q0, q1, z⟩ | exact ⟨p0, p1, q0, q1, z.drew⟩ | exact kept_add_set (by assumption))
        (first
         | (go_at_call 34; refine (minus_any a b cap cbp xs ys _ (by omega) (by omega) HG.out KG.out HLE.out (digA_below HD.out z.drew) (digA_below KD.out z.drew)).mono ?_; rintro e wp ⟨vp, os, rfl, oo, go, vo, lo, hb⟩; obtain ⟨ap, cp, rfl⟩ := own_form oo; have HO := Lib.hid oo; have HGO := Lib.hid go; have HVO := Lib.hid vo; clear oo go vo; have r0 := cell_below (w := w3.drew) t0 hb; have r1 := cell_below (w := w3.drew) t1 hb; have r2 := frozen_below (w := w3.drew) t2 t0 hb; have r3 := frozen_below (w := w3.drew) t3 t1 hb; have hzp : w3.heap.size ≤ wp.heap.size := hb.size)
         | (go_at_call 31; refine (trim_any _ ap cp os wp (by omega) HGO.out (digA_own HO.out).1 (digA_own HO.out).2.1 (digA_own HO.out).2.2).mono ?_; rintro e wt ⟨k, hk, rfl, hg, hn, hv, hb⟩; have s0 := cell_below r0 hb; have s1 := cell_below r1 hb; have s2 := frozen_below r2 r0 hb; have s3 := frozen_below r3 r1 hb))
      have hfl : w.heap.size + 1 + 1 < w3.drew.heap.size := by show _ < w3.heap.size; omega
      obtain ⟨_, _, _, _, zz⟩ := ‹_ ∧ _ ∧ _ ∧ _ ∧ Below w.heap.size w _›
      have hcc := two_cells (x := .bool (decide (numV sx (val os) < 0))) (y := .slice ap k cp) s0 s1
      go_wp2_with fail
      refine bodyPost_ret (v := .agg #[.bool (decide (numV sx (val os) < 0)), .slice ap k cp]) (by simp [results, Try.results18, go_sem, hcc.1, hcc.2]) rfl ?_
      exact add_end hk (ownsRow_setCell_below (ownsRow_setCell_below (ownsRow_below HO.out hb) (a := ⟨w.heap.size + 1 + 1, 0, none⟩) hfl _) (a := ⟨w.heap.size + 1 + 1, 1, none⟩) hfl _) hg hn hv (by rw [HVO.out, HV.out, KV.out]; exact HA.out) zz
    · have HLE : Hid (val xs ≤ val ys) := Lib.hid (by rw [hc] at h0; unfold cmpV at h0; split at h0 <;> omega)
      have HA : Hid (numV sy (szV Y - szV X) = X + Y) := Lib.hid (by rw [HSY.out]; exact add_right X Y (by rw [← HSX.out, ← HSY.out]; exact hs))
      clear hc
      go_wp2_with fail
      go_region_held3 (fun w' => w'.cell? ⟨w.heap.size, 0, none⟩ = some (.bool sx) ∧ w'.cell? ⟨w.heap.size, 1, none⟩ = some (.slice a xs.length cap) ∧ w'.cell? ⟨w.heap.size + 1, 0, none⟩ = some (.bool sy) ∧ w'.cell? ⟨w.heap.size + 1, 1, none⟩ = some (.slice b ys.length cbp) ∧ Below w.heap.size w w')
        (first | assumption | exact kept_add (by assumption) hb | exact ⟨p0, p1, q0, q1, z⟩ | exact ⟨p0, p1, q0, q1, z.drew⟩ | exact kept_add_set (by assumption))
        (first
         | (go_at_call 34; refine (minus_any b a cbp cap ys xs _ (by omega) (by omega) KG.out HG.out HLE.out (digA_below KD.out z.drew) (digA_below HD.out z.drew)).mono ?_; rintro e wp ⟨vp, os, rfl, oo, go, vo, lo, hb⟩; obtain ⟨ap, cp, rfl⟩ := own_form oo; have HO := Lib.hid oo; have HGO := Lib.hid go; have HVO := Lib.hid vo; clear oo go vo; have r0 := cell_below (w := w3.drew) t0 hb; have r1 := cell_below (w := w3.drew) t1 hb; have r2 := frozen_below (w := w3.drew) t2 t0 hb; have r3 := frozen_below (w := w3.drew) t3 t1 hb; have hzp : w3.heap.size ≤ wp.heap.size := hb.size)
         | (go_at_call 31; refine (trim_any _ ap cp os wp (by omega) HGO.out (digA_own HO.out).1 (digA_own HO.out).2.1 (digA_own HO.out).2.2).mono ?_; rintro e wt ⟨k, hk, rfl, hg, hn, hv, hb⟩; have s0 := cell_below r0 hb; have s1 := cell_below r1 hb; have s2 := frozen_below r2 r0 hb; have s3 := frozen_below r3 r1 hb))
      have hfl : w.heap.size + 1 + 1 < w3.drew.heap.size := by show _ < w3.heap.size; omega
      obtain ⟨_, _, _, _, zz⟩ := ‹_ ∧ _ ∧ _ ∧ _ ∧ Below w.heap.size w _›
      have hcc := two_cells (x := .bool (decide (numV sy (val os) < 0))) (y := .slice ap k cp) s0 s1
      go_wp2_with fail
      refine bodyPost_ret (v := .agg #[.bool (decide (numV sy (val os) < 0)), .slice ap k cp]) (by simp [results, Try.results18, go_sem, hcc.1, hcc.2]) rfl ?_
      exact add_end hk (ownsRow_setCell_below (ownsRow_setCell_below (ownsRow_below HO.out hb) (a := ⟨w.heap.size + 1 + 1, 0, none⟩) hfl _) (a := ⟨w.heap.size + 1 + 1, 1, none⟩) hfl _) hg hn hv (by rw [HVO.out, KV.out, HV.out]; exact HA.out) zz
end Go.Proofs.Ytfpelhacbmggeaa
