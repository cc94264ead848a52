/- The law ValueMany answers true at every row of integers: sum and product of any end as soon as one is none. No condition. -/
import Derived.Test.YtfpelhacbmggeaaOpen
import Derived.Test.YtfpelhacbmggeaaManyPlain
namespace Go.Proofs.Ytfpelhacbmggeaa
open Go.RowKit
theorem bigRes_parts {w w' : World} {N : Int} {e : Ending} (h : BigRes w N e w') : ∃ s a l c, e = .returned (.agg #[.bool s, .slice a l c]) ∧ BigV w' (.agg #[.bool s, .slice a l c]) N ∧ Below w.heap.size w w' := by
  obtain ⟨r, rfl, hr, hb⟩ := h
  have h0 := hr
  obtain ⟨a, c, ds, rfl, _, _, _, _, _, _⟩ := big_parts h0
  exact ⟨_, a, ds.length, c, rfl, hr, hb⟩
set_option maxHeartbeats 3200000 in
theorem many_main (a : Option Addr) (cap : Nat) (zs : List Int) (w : World) (hl : zs.length ≤ 20) (hz : ∀ j, j < zs.length → fits (zs[j]?.getD 0) = true) (ha : DigA w a zs) :
    Calls Try.prog 7 #[.slice a zs.length cap] w fun e w' => e = .returned (.bool true) ∧ Below w.heap.size w w' := by
  have HZ := Lib.hid hz; have HA := Lib.hid ha
  obtain ⟨len, hlen⟩ : ∃ len, len = zs.length := ⟨_, rfl⟩
  have HL := Lib.hid hlen
  rw [← hlen] at hl ⊢
  clear hz ha hlen
  go_enter Try.func7, Try.ntmps7
  go_wp2_with fail
  refine (awake_both _).mono ?_
  rintro e w1 ⟨rfl, _, z⟩
  go_wp2_with fail
  refine (of_any 0 _ (by omega) (by omega)).mono ?_
  rintro e w2 ⟨r1, rfl, hr1, hb1⟩
  go_wp2_with fail
  refine (of_any 1 _ (by omega) (by omega)).mono ?_
  rintro e w3 ⟨r2, rfl, hr2, hb2⟩
  replace z := (z.trans (hb1.mono z.size)).trans (hb2.mono (Nat.le_trans z.size hb1.size))
  replace hr1 := bigV_below hr1 hb2
  clear hb1 hb2
  have hr10 := hr1
  have hr20 := hr2
  obtain ⟨a1, cp1, ds1, rfl, _, _, _, _, _, _⟩ := big_parts hr10
  obtain ⟨a2, cp2, ds2, rfl, _, _, _, _, _, _⟩ := big_parts hr20
  obtain ⟨sx, hsx⟩ : ∃ sx, sx = decide ((0 : Int) < 0) := ⟨_, rfl⟩
  obtain ⟨sy, hsy⟩ : ∃ sy, sy = decide ((1 : Int) < 0) := ⟨_, rfl⟩
  rw [← hsx] at hr1 ⊢
  rw [← hsy] at hr2 ⊢
  obtain ⟨l1, hl1⟩ : ∃ l1, l1 = ds1.length := ⟨_, rfl⟩
  obtain ⟨l2, hl2⟩ : ∃ l2, l2 = ds2.length := ⟨_, rfl⟩
  rw [← hl1] at hr1 ⊢
  rw [← hl2] at hr2 ⊢
  have R1 := Lib.hid hr1; have R2 := Lib.hid hr2
  have HZ0 := Lib.hid z
  clear hsx hsy hr1 hr2 hl1 hl2
  go_wp2_with fail
  go_loopw [25, 5, 6] (fun x f g wr => ∃ (k : Nat) (F G : Bool) (s p : Int) (sx sy : Bool) (a1 a2 : Option Addr) (l1 l2 c1 c2 : Nat), x = .int .i64 k ∧ f = .bool F ∧ g = .bool G ∧ k ≤ len ∧ Hid (StV (· + ·) zs k 0 F s) ∧ Hid (StV (· * ·) zs k 1 G p) ∧
      wr.rowIs w3.heap.size 35 2 (boxF sx a1 l1 c1) ∧ wr.rowIs (w3.heap.size + 1) 35 2 (boxF sy a2 l2 c2) ∧ Hid (BigV wr (.agg #[.bool sx, .slice a1 l1 c1]) s) ∧ Hid (BigV wr (.agg #[.bool sy, .slice a2 l2 c2]) p) ∧ Hid (Below w3.heap.size w3 wr)) (fun x _ _ _ => len - (intOf x).toNat)
  case atStart =>
    refine ⟨0, true, true, 0, 1, sx, sy, a1, a2, l1, l2, cp1, cp2, rfl, rfl, rfl, Nat.zero_le _, Lib.hid (st_start _ _ _ (by decide)), Lib.hid (st_start _ _ _ (by decide)), ?_, ?_, Lib.hid (bigV_below R1.out (by go_grown)), Lib.hid (bigV_below R2.out (by go_grown)), Lib.hid (by go_grown)⟩
    · exact ((World.rowIs_alloc w3 #[.bool sx, .slice a1 l1 cp1] 35 (boxF sx a1 l1 cp1) (fun i hi => by
        match i, hi with
        | 0, _ => rfl
        | 1, _ => rfl)).alloc _)
    · have := World.rowIs_alloc (w3.alloc (.cells #[.bool sx, .slice a1 l1 cp1] 35)) #[.bool sy, .slice a2 l2 cp2] 35 (boxF sy a2 l2 cp2) (fun i hi => by
        match i, hi with
        | 0, _ => rfl
        | 1, _ => rfl)
      simpa [go_sem] using this
  case round =>
    obtain ⟨k, F, G, s, p, sx, sy, a1, a2, l1, l2, c1, c2, rfl, rfl, rfl, hk, hs, hp, r1, r2, b1, b2, hb⟩ := hrel
    rcases Nat.lt_or_ge k len with kc | kc
    · cases F <;> cases G
      case true.true =>
        have HN := Lib.hid (HZ.out k (by have := HL.out; omega))
        have zz := HZ0.out.trans (hb.out.mono HZ0.out.size)
        obtain ⟨g, off, hea, ca⟩ := HA.out k (by have := HL.out; omega)
        subst hea
        have CA := cell_below ca zz
        have hS := st_fits hs.out
        have HS := Lib.hid (st_step hs.out (by have := HL.out; omega) (sum_60 s _ hS HN.out))
        have A1 := Lib.hid (fun u v w h h' => (badd_any s (zs[k]?.getD 0) u v w hs.out.1 (low_60 _ HN.out) h h').mono fun _ _ => bigRes_parts)
        have F1 := Lib.hid (fun u w => fits_any (s + zs[k]?.getD 0) u w (sum_60 s _ hS HN.out))
        rw [fits_same] at F1
        clear hS
        have hP := st_fits hp.out
        have HP := Lib.hid (st_step hp.out (by have := HL.out; omega) (mul_60 p _ hP HN.out))
        have A2 := Lib.hid (fun u v w h h' => (bmul_any p (zs[k]?.getD 0) u v w hp.out.1 (low_60 _ HN.out) h h').mono fun _ _ => bigRes_parts)
        have F2 := Lib.hid (fun u w => fits_any (p * zs[k]?.getD 0) u w (mul_60 p _ hP HN.out))
        rw [fits_same] at F2
        clear hP
        have OF := Lib.hid (fun w => of_any (zs[k]?.getD 0) w ((fits_iff _).1 HN.out).1 ((fits_iff _).1 HN.out).2)
        generalize zs[k]?.getD 0 = n at *
        have c0 : wr.cell? ⟨w3.heap.size, 0, none⟩ = some (.bool sx) := r1.cell (show 0 < 2 by omega)
        have c1' : wr.cell? ⟨w3.heap.size, 1, none⟩ = some (.slice a1 l1 c1) := r1.cell (show 1 < 2 by omega)
        have d0 : wr.cell? ⟨w3.heap.size + 1, 0, none⟩ = some (.bool sy) := r2.cell (show 0 < 2 by omega)
        have d1 : wr.cell? ⟨w3.heap.size + 1, 1, none⟩ = some (.slice a2 l2 c2) := r2.cell (show 1 < 2 by omega)
        have f0 := r1.frozen 0
        have f1 := r1.frozen 1
        have g0 := r2.frozen 0
        have g1 := r2.frozen 1
        have hlt := r2.lt
        clear ca hs hp zz
        go_wp2_with fail
        go_region_with (first
          | (go_at_call 19; refine (OF.out _).mono ?_; rintro e wo3 ⟨rn3, rfl, ho, hbo⟩; have hbo' := (Below.refl wr.heap.size wr).drew.trans hbo; replace r1 := rowIs_below r1 hbo'; replace r2 := rowIs_below r2 hbo'; replace c0 := cell_below c0 hbo'; replace c1' := cell_below c1' hbo'; replace d0 := cell_below d0 hbo'; replace d1 := cell_below d1 hbo'; replace b1 := Lib.hid (bigV_below b1.out hbo'); replace b2 := Lib.hid (bigV_below b2.out hbo'); replace hb := Lib.hid (hb.out.trans (hbo'.mono hb.out.size)); clear hbo hbo' f0 f1 g0 g1)
          | (go_at_call 18; refine (A1.out _ _ _ b1.out ho).mono ?_; rintro e wa3 ⟨s3, a3, l3, c3, rfl, hr, hba⟩; replace r1 := rowIs_below r1 hba; replace r2 := rowIs_below r2 hba; replace c0 := cell_below c0 hba; replace c1' := cell_below c1' hba; replace d0 := cell_below d0 hba; replace d1 := cell_below d1 hba; replace b2 := Lib.hid (bigV_below b2.out hba); replace hb := Lib.hid (hb.out.trans (hba.mono hb.out.size)); have f0 := r1.frozen 0; have f1 := r1.frozen 1; have g0 := r2.frozen 0; have g1 := r2.frozen 1; clear hba b1 ho))
        all_goals
          obtain ⟨wx3, hwx⟩ : ∃ wx, wx = (wa3.setCell ⟨w3.heap.size, 0, none⟩ (.bool s3)).setCell ⟨w3.heap.size, 1, none⟩ (.slice a3 l3 c3) := ⟨_, rfl⟩
          rw [← hwx]
          have q1 : wx3.rowIs w3.heap.size 35 2 (boxF s3 a3 l3 c3) := by rw [hwx]; exact box_set r1
          have q2 : wx3.rowIs (w3.heap.size + 1) 35 2 (boxF sy a2 l2 c2) := by rw [hwx]; exact (r2.setOther (by simp) _).setOther (by simp) _
          have e1 := Lib.hid (show BigV wx3 (.agg #[.bool s3, .slice a3 l3 c3]) (s + n) by rw [hwx]; exact bigV_store r1 hr)
          have e2 := Lib.hid (show BigV wx3 (.agg #[.bool sy, .slice a2 l2 c2]) (p) by rw [hwx]; exact bigV_store r1 b2.out)
          have hbx := Lib.hid (show Below w3.heap.size w3 wx3 by rw [hwx]; exact (hb.out.setCell (p := ⟨w3.heap.size, 0, none⟩) (Nat.le_refl _) _).setCell (p := ⟨w3.heap.size, 1, none⟩) (Nat.le_refl _) _)
          clear hwx r1 r2 hb hr c0 c1' d0 d1 f0 f1 g0 g1 hlt b2
          have r1 := q1
          have r2 := q2
          clear q1 q2
          have c0 : wx3.cell? ⟨w3.heap.size, 0, none⟩ = some (.bool s3) := r1.cell (show 0 < 2 by omega)
          have c1' : wx3.cell? ⟨w3.heap.size, 1, none⟩ = some (.slice a3 l3 c3) := r1.cell (show 1 < 2 by omega)
          have d0 : wx3.cell? ⟨w3.heap.size + 1, 0, none⟩ = some (.bool sy) := r2.cell (show 0 < 2 by omega)
          have d1 : wx3.cell? ⟨w3.heap.size + 1, 1, none⟩ = some (.slice a2 l2 c2) := r2.cell (show 1 < 2 by omega)
          have f0 := r1.frozen 0
          have f1 := r1.frozen 1
          have g0 := r2.frozen 0
          have g1 := r2.frozen 1
          have hlt := r2.lt
          go_wp2_with fail
          refine (F1.out _ _ e1.out).mono ?_
          rintro e wf3 ⟨rfl, hbf⟩
          replace r1 := rowIs_below r1 hbf
          replace r2 := rowIs_below r2 hbf
          have b1 := Lib.hid (bigV_below e1.out hbf)
          have b2 := Lib.hid (bigV_below e2.out hbf)
          have hb := Lib.hid (hbx.out.trans (hbf.mono hbx.out.size))
          clear hbf hbx e1 e2 c0 c1' d0 d1 f0 f1 g0 g1 hlt
          have c0 : wf3.cell? ⟨w3.heap.size, 0, none⟩ = some (.bool s3) := r1.cell (show 0 < 2 by omega)
          have c1' : wf3.cell? ⟨w3.heap.size, 1, none⟩ = some (.slice a3 l3 c3) := r1.cell (show 1 < 2 by omega)
          have d0 : wf3.cell? ⟨w3.heap.size + 1, 0, none⟩ = some (.bool sy) := r2.cell (show 0 < 2 by omega)
          have d1 : wf3.cell? ⟨w3.heap.size + 1, 1, none⟩ = some (.slice a2 l2 c2) := r2.cell (show 1 < 2 by omega)
          have f0 := r1.frozen 0
          have f1 := r1.frozen 1
          have g0 := r2.frozen 0
          have g1 := r2.frozen 1
          have hlt := r2.lt
          go_wp2_with fail
          go_region_with (first
            | (go_at_call 19; refine (OF.out _).mono ?_; rintro e wo4 ⟨rn4, rfl, ho, hbo⟩; have hbo' := (Below.refl wf3.heap.size wf3).drew.trans hbo; replace r1 := rowIs_below r1 hbo'; replace r2 := rowIs_below r2 hbo'; replace c0 := cell_below c0 hbo'; replace c1' := cell_below c1' hbo'; replace d0 := cell_below d0 hbo'; replace d1 := cell_below d1 hbo'; replace b1 := Lib.hid (bigV_below b1.out hbo'); replace b2 := Lib.hid (bigV_below b2.out hbo'); replace hb := Lib.hid (hb.out.trans (hbo'.mono hb.out.size)); clear hbo hbo' f0 f1 g0 g1)
            | (go_at_call 21; refine (A2.out _ _ _ b2.out ho).mono ?_; rintro e wa4 ⟨s4, a4, l4, c4, rfl, hr, hba⟩; replace r1 := rowIs_below r1 hba; replace r2 := rowIs_below r2 hba; replace c0 := cell_below c0 hba; replace c1' := cell_below c1' hba; replace d0 := cell_below d0 hba; replace d1 := cell_below d1 hba; replace b1 := Lib.hid (bigV_below b1.out hba); replace hb := Lib.hid (hb.out.trans (hba.mono hb.out.size)); have f0 := r1.frozen 0; have f1 := r1.frozen 1; have g0 := r2.frozen 0; have g1 := r2.frozen 1; clear hba b2 ho))
          all_goals
            obtain ⟨wx4, hwx⟩ : ∃ wx, wx = (wa4.setCell ⟨w3.heap.size + 1, 0, none⟩ (.bool s4)).setCell ⟨w3.heap.size + 1, 1, none⟩ (.slice a4 l4 c4) := ⟨_, rfl⟩
            rw [← hwx]
            have q1 : wx4.rowIs w3.heap.size 35 2 (boxF s3 a3 l3 c3) := by rw [hwx]; exact (r1.setOther (by simp) _).setOther (by simp) _
            have q2 : wx4.rowIs (w3.heap.size + 1) 35 2 (boxF s4 a4 l4 c4) := by rw [hwx]; exact box_set r2
            have e1 := Lib.hid (show BigV wx4 (.agg #[.bool s3, .slice a3 l3 c3]) (s + n) by rw [hwx]; exact bigV_store r2 b1.out)
            have e2 := Lib.hid (show BigV wx4 (.agg #[.bool s4, .slice a4 l4 c4]) (p * n) by rw [hwx]; exact bigV_store r2 hr)
            have hbx := Lib.hid (show Below w3.heap.size w3 wx4 by rw [hwx]; exact (hb.out.setCell (p := ⟨w3.heap.size + 1, 0, none⟩) (Nat.le_succ _) _).setCell (p := ⟨w3.heap.size + 1, 1, none⟩) (Nat.le_succ _) _)
            clear hwx r1 r2 hb hr c0 c1' d0 d1 f0 f1 g0 g1 hlt b1
            have r1 := q1
            have r2 := q2
            clear q1 q2
            have c0 : wx4.cell? ⟨w3.heap.size, 0, none⟩ = some (.bool s3) := r1.cell (show 0 < 2 by omega)
            have c1' : wx4.cell? ⟨w3.heap.size, 1, none⟩ = some (.slice a3 l3 c3) := r1.cell (show 1 < 2 by omega)
            have d0 : wx4.cell? ⟨w3.heap.size + 1, 0, none⟩ = some (.bool s4) := r2.cell (show 0 < 2 by omega)
            have d1 : wx4.cell? ⟨w3.heap.size + 1, 1, none⟩ = some (.slice a4 l4 c4) := r2.cell (show 1 < 2 by omega)
            have f0 := r1.frozen 0
            have f1 := r1.frozen 1
            have g0 := r2.frozen 0
            have g1 := r2.frozen 1
            have hlt := r2.lt
            go_wp2_with fail
            refine (F2.out _ _ e2.out).mono ?_
            rintro e wf4 ⟨rfl, hbf⟩
            replace r1 := rowIs_below r1 hbf
            replace r2 := rowIs_below r2 hbf
            have b1 := Lib.hid (bigV_below e1.out hbf)
            have b2 := Lib.hid (bigV_below e2.out hbf)
            have hb := Lib.hid (hbx.out.trans (hbf.mono hbx.out.size))
            clear hbf hbx e1 e2 c0 c1' d0 d1 f0 f1 g0 g1 hlt
            have c0 : wf4.cell? ⟨w3.heap.size, 0, none⟩ = some (.bool s3) := r1.cell (show 0 < 2 by omega)
            have c1' : wf4.cell? ⟨w3.heap.size, 1, none⟩ = some (.slice a3 l3 c3) := r1.cell (show 1 < 2 by omega)
            have d0 : wf4.cell? ⟨w3.heap.size + 1, 0, none⟩ = some (.bool s4) := r2.cell (show 0 < 2 by omega)
            have d1 : wf4.cell? ⟨w3.heap.size + 1, 1, none⟩ = some (.slice a4 l4 c4) := r2.cell (show 1 < 2 by omega)
            have f0 := r1.frozen 0
            have f1 := r1.frozen 1
            have g0 := r2.frozen 0
            have g1 := r2.frozen 1
            have hlt := r2.lt
            go_wp2_with fail
            refine ⟨⟨k + 1, (fits (s + n)), (fits (p * n)), (s + n), (p * n), s3, s4, a3, a4, l3, l4, c3, c4, by go_num, rfl, rfl, by omega, HS, HP, r1, r2, b1, b2, hb⟩, ?_⟩
            simp [intOf]; omega
      case true.false =>
        have HN := Lib.hid (HZ.out k (by have := HL.out; omega))
        have zz := HZ0.out.trans (hb.out.mono HZ0.out.size)
        obtain ⟨g, off, hea, ca⟩ := HA.out k (by have := HL.out; omega)
        subst hea
        have CA := cell_below ca zz
        have hS := st_fits hs.out
        have HS := Lib.hid (st_step hs.out (by have := HL.out; omega) (sum_60 s _ hS HN.out))
        have A1 := Lib.hid (fun u v w h h' => (badd_any s (zs[k]?.getD 0) u v w hs.out.1 (low_60 _ HN.out) h h').mono fun _ _ => bigRes_parts)
        have F1 := Lib.hid (fun u w => fits_any (s + zs[k]?.getD 0) u w (sum_60 s _ hS HN.out))
        rw [fits_same] at F1
        clear hS
        have HP := Lib.hid (st_still hp.out)
        have OF := Lib.hid (fun w => of_any (zs[k]?.getD 0) w ((fits_iff _).1 HN.out).1 ((fits_iff _).1 HN.out).2)
        generalize zs[k]?.getD 0 = n at *
        have c0 : wr.cell? ⟨w3.heap.size, 0, none⟩ = some (.bool sx) := r1.cell (show 0 < 2 by omega)
        have c1' : wr.cell? ⟨w3.heap.size, 1, none⟩ = some (.slice a1 l1 c1) := r1.cell (show 1 < 2 by omega)
        have d0 : wr.cell? ⟨w3.heap.size + 1, 0, none⟩ = some (.bool sy) := r2.cell (show 0 < 2 by omega)
        have d1 : wr.cell? ⟨w3.heap.size + 1, 1, none⟩ = some (.slice a2 l2 c2) := r2.cell (show 1 < 2 by omega)
        have f0 := r1.frozen 0
        have f1 := r1.frozen 1
        have g0 := r2.frozen 0
        have g1 := r2.frozen 1
        have hlt := r2.lt
        clear ca hs hp zz
        go_wp2_with fail
        go_region_with (first
          | (go_at_call 19; refine (OF.out _).mono ?_; rintro e wo3 ⟨rn3, rfl, ho, hbo⟩; have hbo' := (Below.refl wr.heap.size wr).drew.trans hbo; replace r1 := rowIs_below r1 hbo'; replace r2 := rowIs_below r2 hbo'; replace c0 := cell_below c0 hbo'; replace c1' := cell_below c1' hbo'; replace d0 := cell_below d0 hbo'; replace d1 := cell_below d1 hbo'; replace b1 := Lib.hid (bigV_below b1.out hbo'); replace b2 := Lib.hid (bigV_below b2.out hbo'); replace hb := Lib.hid (hb.out.trans (hbo'.mono hb.out.size)); clear hbo hbo' f0 f1 g0 g1)
          | (go_at_call 18; refine (A1.out _ _ _ b1.out ho).mono ?_; rintro e wa3 ⟨s3, a3, l3, c3, rfl, hr, hba⟩; replace r1 := rowIs_below r1 hba; replace r2 := rowIs_below r2 hba; replace c0 := cell_below c0 hba; replace c1' := cell_below c1' hba; replace d0 := cell_below d0 hba; replace d1 := cell_below d1 hba; replace b2 := Lib.hid (bigV_below b2.out hba); replace hb := Lib.hid (hb.out.trans (hba.mono hb.out.size)); have f0 := r1.frozen 0; have f1 := r1.frozen 1; have g0 := r2.frozen 0; have g1 := r2.frozen 1; clear hba b1 ho))
        all_goals
          obtain ⟨wx3, hwx⟩ : ∃ wx, wx = (wa3.setCell ⟨w3.heap.size, 0, none⟩ (.bool s3)).setCell ⟨w3.heap.size, 1, none⟩ (.slice a3 l3 c3) := ⟨_, rfl⟩
          rw [← hwx]
          have q1 : wx3.rowIs w3.heap.size 35 2 (boxF s3 a3 l3 c3) := by rw [hwx]; exact box_set r1
          have q2 : wx3.rowIs (w3.heap.size + 1) 35 2 (boxF sy a2 l2 c2) := by rw [hwx]; exact (r2.setOther (by simp) _).setOther (by simp) _
          have e1 := Lib.hid (show BigV wx3 (.agg #[.bool s3, .slice a3 l3 c3]) (s + n) by rw [hwx]; exact bigV_store r1 hr)
          have e2 := Lib.hid (show BigV wx3 (.agg #[.bool sy, .slice a2 l2 c2]) (p) by rw [hwx]; exact bigV_store r1 b2.out)
          have hbx := Lib.hid (show Below w3.heap.size w3 wx3 by rw [hwx]; exact (hb.out.setCell (p := ⟨w3.heap.size, 0, none⟩) (Nat.le_refl _) _).setCell (p := ⟨w3.heap.size, 1, none⟩) (Nat.le_refl _) _)
          clear hwx r1 r2 hb hr c0 c1' d0 d1 f0 f1 g0 g1 hlt b2
          have r1 := q1
          have r2 := q2
          clear q1 q2
          have c0 : wx3.cell? ⟨w3.heap.size, 0, none⟩ = some (.bool s3) := r1.cell (show 0 < 2 by omega)
          have c1' : wx3.cell? ⟨w3.heap.size, 1, none⟩ = some (.slice a3 l3 c3) := r1.cell (show 1 < 2 by omega)
          have d0 : wx3.cell? ⟨w3.heap.size + 1, 0, none⟩ = some (.bool sy) := r2.cell (show 0 < 2 by omega)
          have d1 : wx3.cell? ⟨w3.heap.size + 1, 1, none⟩ = some (.slice a2 l2 c2) := r2.cell (show 1 < 2 by omega)
          have f0 := r1.frozen 0
          have f1 := r1.frozen 1
          have g0 := r2.frozen 0
          have g1 := r2.frozen 1
          have hlt := r2.lt
          go_wp2_with fail
          refine (F1.out _ _ e1.out).mono ?_
          rintro e wf3 ⟨rfl, hbf⟩
          replace r1 := rowIs_below r1 hbf
          replace r2 := rowIs_below r2 hbf
          have b1 := Lib.hid (bigV_below e1.out hbf)
          have b2 := Lib.hid (bigV_below e2.out hbf)
          have hb := Lib.hid (hbx.out.trans (hbf.mono hbx.out.size))
          clear hbf hbx e1 e2 c0 c1' d0 d1 f0 f1 g0 g1 hlt
          have c0 : wf3.cell? ⟨w3.heap.size, 0, none⟩ = some (.bool s3) := r1.cell (show 0 < 2 by omega)
          have c1' : wf3.cell? ⟨w3.heap.size, 1, none⟩ = some (.slice a3 l3 c3) := r1.cell (show 1 < 2 by omega)
          have d0 : wf3.cell? ⟨w3.heap.size + 1, 0, none⟩ = some (.bool sy) := r2.cell (show 0 < 2 by omega)
          have d1 : wf3.cell? ⟨w3.heap.size + 1, 1, none⟩ = some (.slice a2 l2 c2) := r2.cell (show 1 < 2 by omega)
          have f0 := r1.frozen 0
          have f1 := r1.frozen 1
          have g0 := r2.frozen 0
          have g1 := r2.frozen 1
          have hlt := r2.lt
          go_wp2_with fail
          refine ⟨⟨k + 1, (fits (s + n)), false, (s + n), p, s3, sy, a3, a2, l3, l2, c3, c2, by go_num, rfl, rfl, by omega, HS, HP, r1, r2, b1, b2, hb⟩, ?_⟩
          simp [intOf]; omega
      case false.true =>
        have HN := Lib.hid (HZ.out k (by have := HL.out; omega))
        have zz := HZ0.out.trans (hb.out.mono HZ0.out.size)
        obtain ⟨g, off, hea, ca⟩ := HA.out k (by have := HL.out; omega)
        subst hea
        have CA := cell_below ca zz
        have HS := Lib.hid (st_still hs.out)
        have hP := st_fits hp.out
        have HP := Lib.hid (st_step hp.out (by have := HL.out; omega) (mul_60 p _ hP HN.out))
        have A2 := Lib.hid (fun u v w h h' => (bmul_any p (zs[k]?.getD 0) u v w hp.out.1 (low_60 _ HN.out) h h').mono fun _ _ => bigRes_parts)
        have F2 := Lib.hid (fun u w => fits_any (p * zs[k]?.getD 0) u w (mul_60 p _ hP HN.out))
        rw [fits_same] at F2
        clear hP
        have OF := Lib.hid (fun w => of_any (zs[k]?.getD 0) w ((fits_iff _).1 HN.out).1 ((fits_iff _).1 HN.out).2)
        generalize zs[k]?.getD 0 = n at *
        have c0 : wr.cell? ⟨w3.heap.size, 0, none⟩ = some (.bool sx) := r1.cell (show 0 < 2 by omega)
        have c1' : wr.cell? ⟨w3.heap.size, 1, none⟩ = some (.slice a1 l1 c1) := r1.cell (show 1 < 2 by omega)
        have d0 : wr.cell? ⟨w3.heap.size + 1, 0, none⟩ = some (.bool sy) := r2.cell (show 0 < 2 by omega)
        have d1 : wr.cell? ⟨w3.heap.size + 1, 1, none⟩ = some (.slice a2 l2 c2) := r2.cell (show 1 < 2 by omega)
        have f0 := r1.frozen 0
        have f1 := r1.frozen 1
        have g0 := r2.frozen 0
        have g1 := r2.frozen 1
        have hlt := r2.lt
        clear ca hs hp zz
        go_wp2_with fail
        go_region_with (first
          | (go_at_call 19; refine (OF.out _).mono ?_; rintro e wo4 ⟨rn4, rfl, ho, hbo⟩; have hbo' := (Below.refl wr.heap.size wr).drew.trans hbo; replace r1 := rowIs_below r1 hbo'; replace r2 := rowIs_below r2 hbo'; replace c0 := cell_below c0 hbo'; replace c1' := cell_below c1' hbo'; replace d0 := cell_below d0 hbo'; replace d1 := cell_below d1 hbo'; replace b1 := Lib.hid (bigV_below b1.out hbo'); replace b2 := Lib.hid (bigV_below b2.out hbo'); replace hb := Lib.hid (hb.out.trans (hbo'.mono hb.out.size)); clear hbo hbo' f0 f1 g0 g1)
          | (go_at_call 21; refine (A2.out _ _ _ b2.out ho).mono ?_; rintro e wa4 ⟨s4, a4, l4, c4, rfl, hr, hba⟩; replace r1 := rowIs_below r1 hba; replace r2 := rowIs_below r2 hba; replace c0 := cell_below c0 hba; replace c1' := cell_below c1' hba; replace d0 := cell_below d0 hba; replace d1 := cell_below d1 hba; replace b1 := Lib.hid (bigV_below b1.out hba); replace hb := Lib.hid (hb.out.trans (hba.mono hb.out.size)); have f0 := r1.frozen 0; have f1 := r1.frozen 1; have g0 := r2.frozen 0; have g1 := r2.frozen 1; clear hba b2 ho))
        all_goals
          obtain ⟨wx4, hwx⟩ : ∃ wx, wx = (wa4.setCell ⟨w3.heap.size + 1, 0, none⟩ (.bool s4)).setCell ⟨w3.heap.size + 1, 1, none⟩ (.slice a4 l4 c4) := ⟨_, rfl⟩
          rw [← hwx]
          have q1 : wx4.rowIs w3.heap.size 35 2 (boxF sx a1 l1 c1) := by rw [hwx]; exact (r1.setOther (by simp) _).setOther (by simp) _
          have q2 : wx4.rowIs (w3.heap.size + 1) 35 2 (boxF s4 a4 l4 c4) := by rw [hwx]; exact box_set r2
          have e1 := Lib.hid (show BigV wx4 (.agg #[.bool sx, .slice a1 l1 c1]) (s) by rw [hwx]; exact bigV_store r2 b1.out)
          have e2 := Lib.hid (show BigV wx4 (.agg #[.bool s4, .slice a4 l4 c4]) (p * n) by rw [hwx]; exact bigV_store r2 hr)
          have hbx := Lib.hid (show Below w3.heap.size w3 wx4 by rw [hwx]; exact (hb.out.setCell (p := ⟨w3.heap.size + 1, 0, none⟩) (Nat.le_succ _) _).setCell (p := ⟨w3.heap.size + 1, 1, none⟩) (Nat.le_succ _) _)
          clear hwx r1 r2 hb hr c0 c1' d0 d1 f0 f1 g0 g1 hlt b1
          have r1 := q1
          have r2 := q2
          clear q1 q2
          have c0 : wx4.cell? ⟨w3.heap.size, 0, none⟩ = some (.bool sx) := r1.cell (show 0 < 2 by omega)
          have c1' : wx4.cell? ⟨w3.heap.size, 1, none⟩ = some (.slice a1 l1 c1) := r1.cell (show 1 < 2 by omega)
          have d0 : wx4.cell? ⟨w3.heap.size + 1, 0, none⟩ = some (.bool s4) := r2.cell (show 0 < 2 by omega)
          have d1 : wx4.cell? ⟨w3.heap.size + 1, 1, none⟩ = some (.slice a4 l4 c4) := r2.cell (show 1 < 2 by omega)
          have f0 := r1.frozen 0
          have f1 := r1.frozen 1
          have g0 := r2.frozen 0
          have g1 := r2.frozen 1
          have hlt := r2.lt
          go_wp2_with fail
          refine (F2.out _ _ e2.out).mono ?_
          rintro e wf4 ⟨rfl, hbf⟩
          replace r1 := rowIs_below r1 hbf
          replace r2 := rowIs_below r2 hbf
          have b1 := Lib.hid (bigV_below e1.out hbf)
          have b2 := Lib.hid (bigV_below e2.out hbf)
          have hb := Lib.hid (hbx.out.trans (hbf.mono hbx.out.size))
          clear hbf hbx e1 e2 c0 c1' d0 d1 f0 f1 g0 g1 hlt
          have c0 : wf4.cell? ⟨w3.heap.size, 0, none⟩ = some (.bool sx) := r1.cell (show 0 < 2 by omega)
          have c1' : wf4.cell? ⟨w3.heap.size, 1, none⟩ = some (.slice a1 l1 c1) := r1.cell (show 1 < 2 by omega)
          have d0 : wf4.cell? ⟨w3.heap.size + 1, 0, none⟩ = some (.bool s4) := r2.cell (show 0 < 2 by omega)
          have d1 : wf4.cell? ⟨w3.heap.size + 1, 1, none⟩ = some (.slice a4 l4 c4) := r2.cell (show 1 < 2 by omega)
          have f0 := r1.frozen 0
          have f1 := r1.frozen 1
          have g0 := r2.frozen 0
          have g1 := r2.frozen 1
          have hlt := r2.lt
          go_wp2_with fail
          refine ⟨⟨k + 1, false, (fits (p * n)), s, (p * n), sx, s4, a1, a4, l1, l4, c1, c4, by go_num, rfl, rfl, by omega, HS, HP, r1, r2, b1, b2, hb⟩, ?_⟩
          simp [intOf]; omega
      case false.false =>
        have HN := Lib.hid (HZ.out k (by have := HL.out; omega))
        have zz := HZ0.out.trans (hb.out.mono HZ0.out.size)
        obtain ⟨g, off, hea, ca⟩ := HA.out k (by have := HL.out; omega)
        subst hea
        have CA := cell_below ca zz
        have HS := Lib.hid (st_still hs.out)
        have HP := Lib.hid (st_still hp.out)
        have OF := Lib.hid (fun w => of_any (zs[k]?.getD 0) w ((fits_iff _).1 HN.out).1 ((fits_iff _).1 HN.out).2)
        generalize zs[k]?.getD 0 = n at *
        have c0 : wr.cell? ⟨w3.heap.size, 0, none⟩ = some (.bool sx) := r1.cell (show 0 < 2 by omega)
        have c1' : wr.cell? ⟨w3.heap.size, 1, none⟩ = some (.slice a1 l1 c1) := r1.cell (show 1 < 2 by omega)
        have d0 : wr.cell? ⟨w3.heap.size + 1, 0, none⟩ = some (.bool sy) := r2.cell (show 0 < 2 by omega)
        have d1 : wr.cell? ⟨w3.heap.size + 1, 1, none⟩ = some (.slice a2 l2 c2) := r2.cell (show 1 < 2 by omega)
        have f0 := r1.frozen 0
        have f1 := r1.frozen 1
        have g0 := r2.frozen 0
        have g1 := r2.frozen 1
        have hlt := r2.lt
        clear ca hs hp zz
        go_wp2_with fail
        refine ⟨⟨k + 1, false, false, s, p, sx, sy, a1, a2, l1, l2, c1, c2, by go_num, rfl, rfl, by omega, HS, HP, r1, r2, b1, b2, hb⟩, ?_⟩
        simp [intOf]; omega
    · have hkl : k = zs.length := by have := HL.out; omega
      rw [hkl] at hs hp
      have hse := Lib.hid (st_end hs.out)
      have hpe := Lib.hid (st_end hp.out)
      have zz := HZ0.out.trans (hb.out.mono HZ0.out.size)
      have hadd := Lib.hid (Add_row a cap zs wr (by have := HL.out; omega) HZ.out (digA_below HA.out zz))
      have hmul := Lib.hid (Mul_row a cap zs wr (by have := HL.out; omega) HZ.out (digA_below HA.out zz))
      rw [← HL.out] at hadd hmul
      rw [hse.out.1, hse.out.2] at hadd
      rw [hpe.out.1, hpe.out.2] at hmul
      have I1 := Lib.hid (fun v w => is_any s v w hs.out.1)
      have I2 := Lib.hid (fun v w => is_any p v w hp.out.1)
      have c0 : wr.cell? ⟨w3.heap.size, 0, none⟩ = some (.bool sx) := r1.cell (show 0 < 2 by omega)
      have c1' : wr.cell? ⟨w3.heap.size, 1, none⟩ = some (.slice a1 l1 c1) := r1.cell (show 1 < 2 by omega)
      have d0 : wr.cell? ⟨w3.heap.size + 1, 0, none⟩ = some (.bool sy) := r2.cell (show 0 < 2 by omega)
      have d1 : wr.cell? ⟨w3.heap.size + 1, 1, none⟩ = some (.slice a2 l2 c2) := r2.cell (show 1 < 2 by omega)
      have ZZ := Lib.hid zz
      clear zz hkl hse hpe
      generalize nF s = n1 at hadd I1
      generalize eF s = m1 at hadd I1
      generalize nF p = n2 at hmul I2
      generalize eF p = m2 at hmul I2
      go_wp2_with fail
      refine hadd.out.mono ?_
      rintro e w' ⟨rfl, rfl⟩
      go_wp2_with fail
      refine hmul.out.mono ?_
      rintro e w' ⟨rfl, rfl⟩
      go_wp2_with fail
      refine (I1.out _ _ b1.out).mono ?_
      rintro e w5 ⟨rfl, h5⟩
      replace d0 := cell_below d0 h5
      replace d1 := cell_below d1 h5
      have b25 := bigV_below b2.out h5
      have ZZ5 := Lib.hid (ZZ.out.trans (h5.mono ZZ.out.size))
      go_wp2_with fail
      refine (I2.out _ _ b25).mono ?_
      rintro e w6 ⟨rfl, h6⟩
      go_wp2_with fail
      go_ret
      exact ⟨rfl, ZZ5.out.trans (h6.mono ZZ5.out.size)⟩
end Go.Proofs.Ytfpelhacbmggeaa
