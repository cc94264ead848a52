/- DictOrders, walked. -/
import Derived.Test.YtghimladdioajaaDcOrder
namespace Go.Proofs.Ytghimladdioajaa
open Go Go.RowKit
set_option linter.unusedVariables false
set_option linter.unusedSimpArgs false
set_option maxRecDepth 100000
theorem BothV.next2 {G : Tm → Bool} {w0 w' : World} {p m bm : Nat} {room : Int} {V V' : Value} {ts' : List Tm} (hd' : DcAt w0.heap.size p m ts' room w') (hbox : w'.heap[bm]? = some (.cells #[.int .i64 room, V] 29 (0, 0))) (hrow : DocRow w' 0 V' ts') (hf' : Fine G ts') (hdist' : Dist ts') (hb : Below w0.heap.size w0 w') (hbm : w0.heap.size ≤ bm) :
    BothV G w0 p m bm room V' ts' ((w'.setCell ⟨bm, 0, none⟩ (.int .i64 room)).setCell ⟨bm, 1, none⟩ V') := by
  have hbox1 : (w'.setCell ⟨bm, 0, none⟩ (.int .i64 room)).heap[bm]? = some (.cells #[.int .i64 room, V] 29 (0, 0)) := set_cell0 hbox _
  refine ⟨(hd'.set hbox (by decide) (by decide) _).set hbox1 (by decide) (by decide) _, box_set2 hbox _ _, (hrow.set_other hbox (by decide) _).set_other hbox1 (by decide) _, hf', hdist', ?_, hbm⟩
  exact (hb.setCell (p := ⟨bm, 0, none⟩) hbm _).setCell (p := ⟨bm, 1, none⟩) hbm _
theorem cmpI_anti (a b : Int) : cmpI b a = - cmpI a b := ord_int.anti a b
theorem orderN_anti (ts : List Tm) (a b : Int) : orderN ts b a = - orderN ts a b := by
  unfold orderN
  cases hasN a ts.length <;> cases hasN b ts.length <;> simp only [Bool.and_self, Bool.and_true, Bool.and_false, Bool.false_eq_true, if_true, if_false]
  · exact cmpI_anti a b
  · omega
  · exact order_anti _ _
set_option maxHeartbeats 800000 in
theorem hasm_any {bm : Nat} {room : Int} {V : Value} {ts : List Tm} {w : World} (n : Int) (h : w.heap[bm]? = some (.cells #[.int .i64 room, V] 29 (0, 0))) (hr : DocRow w 0 V ts) :
    Calls Try.prog 31 #[.int .i64 n, .pointer (some ⟨bm, 0, none⟩)] w fun e w' => e = .returned (.bool (hasN n ts.length)) ∧ w = w' := by
  obtain ⟨a, cap, rfl⟩ := hr.form
  obtain ⟨c0, c1, _, _⟩ := cells2 h
  clear h hr c0
  unfold hasN
  rcases Int.lt_or_le n 0 with hn | hn
  · have t1 : decide (n ≥ 0) = false := decide_eq_false (by omega)
    have t2 : decide (0 ≤ n) = false := decide_eq_false (by omega)
    rw [t2]
    go_enter Try.func31, Try.ntmps31
    go_wp2
    go_ret
    exact ⟨rfl, rfl⟩
  · have t1 : decide (n ≥ 0) = true := decide_eq_true (by omega)
    have t2 : decide (0 ≤ n) = true := decide_eq_true (by omega)
    rw [t2]
    go_enter Try.func31, Try.ntmps31
    go_wp2
    go_ret
    exact ⟨rfl, rfl⟩
set_option maxHeartbeats 6400000 in
theorem orders_any (al : Option Addr) (rs : List Raw) (cap : Nat) (a b : Int) (w : World) (hm : MaxV w) (h : RawsAt w al rs) (hl : rs.length ≤ 9223372036854775807) (ha : -9223372036854775808 ≤ a ∧ a ≤ 9223372036854775807) (hb : -9223372036854775808 ≤ b ∧ b ≤ 9223372036854775807) :
    Calls Try.prog 7 #[.slice al rs.length cap, .int .i64 a, .int .i64 b] w fun e w' => e = .returned (.bool true) ∧ Below w.heap.size w w' := by
  obtain ⟨G, hG⟩ := good_fn
  have HA := Lib.hid (awake5_any w hm)
  have HA2 := Lib.hid (fun w1 (hb : Below w.heap.size w w1) => awake5_any w1 (hm.below hb))
  have HM := Lib.hid hm
  have HR := Lib.hid h
  have HG := Lib.hid hG
  clear hm h hG
  by_cases hlen : (20 : Int) < rs.length
  · go_enter Try.func7, Try.ntmps7
    go_wp2_with fail
    refine HA.out.mono ?_
    rintro e w1 ⟨rfl, hb1⟩
    go_wp2_with fail
    refine (HA2.out _ hb1).mono ?_
    rintro e w2 ⟨rfl, hb2⟩
    go_wp2_with fail
    go_ret
    exact ⟨rfl, hb1.trans (hb2.mono hb1.size)⟩
  have hl40 : rs.length ≤ 20 := by omega
  have t0 : decide ((20 : Int) < rs.length) = false := decide_eq_false hlen
  clear hlen hl
  go_enter Try.func7, Try.ntmps7
  go_wp2_with fail
  refine HA.out.mono ?_
  rintro e w1 ⟨rfl, hb1⟩
  go_wp2_with fail
  refine (new_yes 20 w1 (by omega) w.heap.size hb1.size).mono ?_
  rintro e w2 ⟨p, m, rfl, hd2, hb2, hp2, hm2⟩
  have HB2 := Lib.hid (Both.begin (G := G) hd2 (hb1.trans (hb2.mono hb1.size)))
  clear hd2 hb2 hp2 hm2 hb1
  go_wp2_with fail
  go_loopw [30] (fun i wr => ∃ j : Nat, j ≤ rs.length ∧ i = .int .i64 j ∧ Hid (∃ ts, ts.length ≤ j ∧ Both G w p m w2.heap.size 20 ts wr)) (fun i _ => rs.length - (intOf i).toNat)
  case atStart => exact ⟨0, by omega, rfl, Lib.hid ⟨[], by simp, HB2.out⟩⟩
  case round =>
    obtain ⟨j, hj, rfl, hc⟩ := hrel
    obtain ⟨ts, hjl, V, hB⟩ := hc.out
    obtain ⟨av, cv, rfl⟩ := hB.2.2.1.form
    have HJ := Lib.hid hjl
    clear hc hjl
    by_cases hlt : j < rs.length
    · obtain ⟨bq, off, rfl, r0, r1, r2, r3, rin⟩ := (HR.out.below hB.bel).at_ j hlt
      have HB := Lib.hid hB
      obtain ⟨r, hr⟩ : ∃ r, r = rs[j]'hlt := ⟨_, rfl⟩
      rw [← hr] at r0 r1 r2 r3 rin
      have b1 : (0 : Int) ≤ (j : Int) := by omega
      have b2 : (j : Int) < (rs.length : Int) := by omega
      clear hr hB rin
      go_wp2_with fail
      refine (short5_any _ _ _ _ _).mono ?_
      rintro e w3 ⟨rfl, hb3⟩
      have HB3 := Lib.hid ((HB.out.alloc _).below hb3)
      have HC3 := Lib.hid (box_below (box_new wr _ _) hb3)
      clear hb3 r0 r1 r2 r3
      cases hsh : short5 r.x r.t r.l with
      | false =>
        clear hsh
        go_wp2_with fail
        go_ret
        exact ⟨rfl, HB3.out.bel⟩
      | true =>
        obtain ⟨X, hX⟩ : ∃ X, X = rawK r := ⟨_, rfl⟩
        have hz : Small X := by rw [hX]; exact rawK_small hsh
        have hx : KeyT X := by rw [hX]; exact termK_key _ _ _ _
        have HPL := Lib.hid (fun w => plain4_any r.k r.x r.t r.l w)
        change Hid (∀ w, Calls _ _ _ w fun e w' => e = .returned (refT (rawK r)) ∧ _) at HPL
        rw [← hX] at HPL
        obtain ⟨ts', N, C, hput⟩ : ∃ ts' N C, putT G 20 ts X = (ts', N, C) := ⟨_, _, _, rfl⟩
        have hl65 : ts.length ≤ 65536 := by obtain ⟨_, _, _, _, _, _, _, _, _, _, h8⟩ := HB3.out.1; exact h8
        have HRP := Lib.hid (fun w1 (h1 : DocRow w1 0 (.slice av ts.length cv) ts) => rput_any HG.out 20 _ ts X w1 h1 hz hx HB3.out.2.2.2.1.key (by omega))
        have HPU := Lib.hid (fun w1 (hm : MaxV w1) (hd : DcAt w.heap.size p m ts 20 w1) (hs : w.heap.size ≤ w1.heap.size) => put_any HG.out X hz hm hd HB3.out.2.2.2.2.1 (by omega) hs)
        have HRE := Lib.hid (fun w => real_any X hx w)
        unfold RPut at HRP
        have hlen' := putT_len G 20 ts X
        rw [hput] at HRP HPU hlen'
        dsimp only at HRP HPU hlen'
        have hf' : Fine G ts' := by have := fine_put (room := 20) HB3.out.2.2.2.1 hx hz; rw [hput] at this; exact this
        have HP := Lib.hid (⟨hput, hf', hlen'⟩ : _ ∧ _ ∧ _)
        obtain ⟨c0, c1, c2, c3⟩ := cells4 HC3.out
        clear hsh hz hx hput hf' hl65 hlen' hX
        unfold refT at HPL HRP HRE
        generalize tmV X = xv at *
        generalize kindV X = k0 at *
        generalize text0 X = s0 at *
        generalize text1 X = s1 at *
        generalize text2 X = s2 at *
        go_wp2_with fail
        refine (HPL.out _).mono ?_
        rintro e w4 ⟨rfl, hb4⟩
        have HB4 := Lib.hid ((HB3.out.below hb4).alloc (.cells #[.int .i64 k0, .string s0, .string s1, .string s2] 31))
        have HC4 := Lib.hid (box_new w4 #[.int .i64 k0, .string s0, .string s1, .string s2] 31)
        clear hb4 c0 c1 c2 c3
        go_wp2_with fail
        refine (HRE.out _).mono ?_
        rintro e w6 ⟨rfl, hb6⟩
        have HB6 := Lib.hid (HB4.out.below hb6)
        have HC6 := Lib.hid (box_below HC4.out hb6)
        clear hb6
        go_wp2_with fail
        refine (HPU.out w6 (HM.out.below HB6.out.bel) HB6.out.1 HB6.out.bel.size).mono ?_
        rintro e w7 ⟨rfl, hd7, hk7, hdist7⟩
        have hbox7 := HB6.out.1.box hk7 HB6.out.2.1 (by decide) (by decide)
        have hrow7 := HB6.out.1.row hk7 HB6.out.2.2.1 (by decide) (by decide)
        have hc7 := HB6.out.1.box hk7 HC6.out (by decide) (by decide)
        have H7 := Lib.hid (⟨hd7, hbox7, hrow7, HB6.out.bel.trans hk7.1, hdist7⟩ : _ ∧ _ ∧ _ ∧ _ ∧ _)
        obtain ⟨x0, x1, x2, x3⟩ := cells2 hbox7
        obtain ⟨y0, y1, y2, y3⟩ := cells4 hc7
        clear hd7 hk7 hdist7 hbox7 hrow7 hc7
        go_wp2_with fail
        refine (HRP.out _ H7.out.2.2.1).mono ?_
        rintro e w8 ⟨V', rfl, hr8, hb8⟩
        obtain ⟨av', cv', rfl⟩ := hr8.form
        have hbox8 := box_below H7.out.2.1 hb8
        have HN := Lib.hid (BothV.next2 (G := G) (H7.out.1.keep hb8) hbox8 hr8 HP.out.2.1 H7.out.2.2.2.2 (H7.out.2.2.2.1.trans (hb8.mono H7.out.2.2.2.1.size)) HB6.out.2.2.2.2.2.2)
        obtain ⟨x0, x1, x2, x3⟩ := cells2 hbox8
        clear hbox8 hr8 hb8 y0 y1 y2 y3
        go_wp2_with fail
        exact ⟨⟨j + 1, by omega, by push_cast; rfl, Lib.hid ⟨ts', by have := HP.out.2.2; have := HJ.out; omega, _, HN.out⟩⟩, by simp only [intOf]; omega⟩
    · have t3 : decide (j < rs.length) = false := decide_eq_false hlt
      have hjl := HJ.out
      have hl2 : ts.length ≤ 20 := by omega
      have HB := Lib.hid hB
      clear hB hjl
      have hON : ∃ R, R = orderN ts a b := ⟨_, rfl⟩
      go_wp2_with fail
      cases h1 : hasN a ts.length with
      | true =>
        cases h2 : hasN b ts.length with
        | true =>
          refine (hasm_any a HB.out.2.1 HB.out.2.2.1).mono ?_
          rintro e wz ⟨rfl, rfl⟩
          rw [h1]
          go_wp2_with fail
          refine (hasm_any b HB.out.2.1 HB.out.2.2.1).mono ?_
          rintro e wz ⟨rfl, rfl⟩
          rw [h2]
          go_wp2_with fail
          unfold hasN at h1 h2
          simp only [Bool.and_eq_true, decide_eq_true_eq] at h1 h2
          have hh1 := h1
          have hh2 := h2
          obtain ⟨ja, rfl⟩ : ∃ ja : Nat, a = ja := ⟨a.toNat, by omega⟩
          obtain ⟨jb, rfl⟩ : ∃ jb : Nat, b = jb := ⟨b.toNat, by omega⟩
          have hlja : ja < ts.length := by omega
          have hljb : jb < ts.length := by omega
          have HONE : Hid (orderN ts ja jb = orderV ts[ja] ts[jb]) := Lib.hid (by
            unfold orderN hasN
            rw [show (decide (0 ≤ (ja : Int)) && decide ((ja : Int) < ts.length)) = true by simp; omega, show (decide (0 ≤ (jb : Int)) && decide ((jb : Int) < ts.length)) = true by simp; omega]
            simp [hlja, hljb])
          have c1 : (0 : Int) ≤ (ja : Int) := by omega
          have c2 : (ja : Int) < (ts.length : Int) := by omega
          have c3 : (0 : Int) ≤ (jb : Int) := by omega
          have c4 : (jb : Int) < (ts.length : Int) := by omega
          clear h1 h2 hh1 hh2
          have hO1 := order_less ts[ja] ts[jb]
          have hO2 := order_less ts[jb] ts[ja]
          rw [order_anti ts[ja] ts[jb]] at hO2
          have hOV := order_vals ts[ja] ts[jb]
          have HO := Lib.hid (⟨hO1, hO2, hOV⟩ : _ ∧ _ ∧ _)
          clear hO1 hO2 hOV
          obtain ⟨g, cap', hv, -⟩ := doc_at HB.out.2.2.1 ja hlja
          obtain rfl : av = some ⟨g, 0, none⟩ := by injection hv
          clear hv
          cases hL1 : lessR ts[ja] ts[jb] with
          | true =>
            have HON : orderN ts ja jb = -1 := by
              rw [HONE.out]
              have := HO.out.1
              rw [hL1] at this
              exact of_decide_eq_true this.symm
            have HONH := Lib.hid HON
            clear HON
            obtain ⟨x0, x1, x2, x3⟩ := cells2 HB.out.2.1
            obtain ⟨gx, cx, hv, _, _, d0, d1, d2, d3⟩ := doc_at HB.out.2.2.1 ja hlja
            obtain ⟨gy, cy, hv2, _, _, e0, e1, e2, e3⟩ := doc_at HB.out.2.2.1 jb hljb
            obtain rfl : g = gx := by injection hv with hv _ _; injection hv with hv; injection hv
            obtain rfl : g = gy := by injection hv2 with hv2 _ _; injection hv2 with hv2; injection hv2
            clear hv hv2 x0 x2 x3
            have HLS := Lib.hid (fun w => rless_any ts[ja] ts[jb] w)
            unfold refT at HLS
            rw [hL1] at HLS
            have HLL := Lib.hid hL1
            clear hL1
            generalize kindV ts[ja] = k1 at d0 HLS
            generalize text0 ts[ja] = s1 at d1 HLS
            generalize text1 ts[ja] = t1 at d2 HLS
            generalize text2 ts[ja] = l1 at d3 HLS
            generalize kindV ts[jb] = k2 at e0 HLS
            generalize text0 ts[jb] = s2 at e1 HLS
            generalize text1 ts[jb] = t2 at e2 HLS
            generalize text2 ts[jb] = l2 at e3 HLS
            go_wp2_with fail
            refine wp_region_held_drew (S := (fun w' => w'.cell? ⟨w2.heap.size, 1, none⟩ = some (.slice (some ⟨g, 0, none⟩) ts.length cv) ∧ w'.cell? ⟨g, ja * 4, none⟩ = some (.int .i64 k1) ∧ w'.cell? ⟨g, ja * 4 + 1, none⟩ = some (.string s1) ∧ w'.cell? ⟨g, ja * 4 + 2, none⟩ = some (.string t1) ∧ w'.cell? ⟨g, ja * 4 + 3, none⟩ = some (.string l1) ∧ w'.cell? ⟨g, jb * 4, none⟩ = some (.int .i64 k2) ∧ w'.cell? ⟨g, jb * 4 + 1, none⟩ = some (.string s2) ∧ w'.cell? ⟨g, jb * 4 + 2, none⟩ = some (.string t2) ∧ w'.cell? ⟨g, jb * 4 + 3, none⟩ = some (.string l2))) (by kernel_rfl) ?hSla0 (fun hHeld => ?_)
            case hSla0 => exact ⟨x1, d0, d1, d2, d3, e0, e1, e2, e3⟩
            refine wpAnyH_take (i := 0) (oi := ⟨some 61, _, _, _, _, _⟩) (v := ?vla0) rfl (by kernel_rfl) (by kernel_rfl) (by kernel_rfl) (fun _ _ _ h => h) (Or.inl ⟨by kernel_rfl, ?yla0⟩) (by assumption) ?rla0
            case yla0 =>
              intro w hSw
              try dsimp only at hSw
              first | (go_simp; done) | (go_simp; with_reducible rfl)
            try simp only [Act.put, List.setIfInBounds_toArray, List.set_cons_zero, List.set_cons_succ]
            refine wpAnyH_take (i := 1) (oi := ⟨some 62, _, _, _, _, _⟩) (v := ?vla1) rfl (by kernel_rfl) (by kernel_rfl) (by kernel_rfl) (fun _ _ _ h => h) (Or.inl ⟨by kernel_rfl, ?yla1⟩) (by assumption) ?rla1
            case yla1 =>
              intro w hSw
              try dsimp only at hSw
              first | (go_simp; done) | (go_simp; with_reducible rfl)
            try simp only [Act.put, List.setIfInBounds_toArray, List.set_cons_zero, List.set_cons_succ]
            refine wpAnyH_take (i := 2) (oi := ⟨some 63, _, _, _, _, _⟩) (v := ?vla2) rfl (by kernel_rfl) (by kernel_rfl) (by kernel_rfl) (fun _ _ _ h => h) (Or.inl ⟨by kernel_rfl, ?yla2⟩) (by assumption) ?rla2
            case yla2 =>
              intro w hSw
              try dsimp only at hSw
              first | (go_simp; done) | (go_simp; with_reducible rfl)
            try simp only [Act.put, List.setIfInBounds_toArray, List.set_cons_zero, List.set_cons_succ]
            refine wpAnyH_take (i := 3) (oi := ⟨some 64, _, _, _, _, _⟩) (v := ?vla3) rfl (by kernel_rfl) (by kernel_rfl) (by kernel_rfl) (fun _ _ _ h => h) (Or.inl ⟨by kernel_rfl, ?yla3⟩) (by assumption) ?rla3
            case yla3 =>
              intro w hSw
              try dsimp only at hSw
              first | (go_simp; done) | (go_simp; with_reducible rfl)
            try simp only [Act.put, List.setIfInBounds_toArray, List.set_cons_zero, List.set_cons_succ]
            refine wpAnyH_take (i := 4) (oi := ⟨some 65, _, _, _, _, _⟩) (v := ?vla4) rfl (by kernel_rfl) (by kernel_rfl) (by kernel_rfl) (fun _ _ _ h => h) (Or.inl ⟨by kernel_rfl, ?yla4⟩) (by assumption) ?rla4
            case yla4 =>
              intro w hSw
              try dsimp only at hSw
              first | (go_simp; done) | (go_simp; with_reducible rfl)
            try simp only [Act.put, List.setIfInBounds_toArray, List.set_cons_zero, List.set_cons_succ]
            refine wpAnyH_take (i := 5) (oi := ⟨some 66, _, _, _, _, _⟩) (v := ?vla5) rfl (by kernel_rfl) (by kernel_rfl) (by kernel_rfl) (fun _ _ _ h => h) (Or.inl ⟨by kernel_rfl, ?yla5⟩) (by assumption) ?rla5
            case yla5 =>
              intro w hSw
              try dsimp only at hSw
              first | (go_simp; done) | (go_simp; with_reducible rfl)
            try simp only [Act.put, List.setIfInBounds_toArray, List.set_cons_zero, List.set_cons_succ]
            refine wpAnyH_take (i := 6) (oi := ⟨some 67, _, _, _, _, _⟩) (v := ?vla6) rfl (by kernel_rfl) (by kernel_rfl) (by kernel_rfl) (fun _ _ _ h => h) (Or.inl ⟨by kernel_rfl, ?yla6⟩) (by assumption) ?rla6
            case yla6 =>
              intro w hSw
              try dsimp only at hSw
              first | (go_simp; done) | (go_simp; with_reducible rfl)
            try simp only [Act.put, List.setIfInBounds_toArray, List.set_cons_zero, List.set_cons_succ]
            refine wpAnyH_take (i := 7) (oi := ⟨some 68, _, _, _, _, _⟩) (v := ?vla7) rfl (by kernel_rfl) (by kernel_rfl) (by kernel_rfl) (fun _ _ _ h => h) (Or.inl ⟨by kernel_rfl, ?yla7⟩) (by assumption) ?rla7
            case yla7 =>
              intro w hSw
              try dsimp only at hSw
              first | (go_simp; done) | (go_simp; with_reducible rfl)
            try simp only [Act.put, List.setIfInBounds_toArray, List.set_cons_zero, List.set_cons_succ]
            refine wpAnyH_take (i := 8) (oi := ⟨some 69, _, _, _, _, _⟩) (v := ?vla8) rfl (by kernel_rfl) (by kernel_rfl) (by kernel_rfl) (fun _ _ _ h => h) (Or.inl ⟨by kernel_rfl, ?yla8⟩) (by assumption) ?rla8
            case yla8 =>
              intro w hSw
              try dsimp only at hSw
              first | (go_simp; done) | (go_simp; with_reducible rfl)
            try simp only [Act.put, List.setIfInBounds_toArray, List.set_cons_zero, List.set_cons_succ]
            refine wpAnyH_take (i := 9) (oi := ⟨some 70, _, _, _, _, _⟩) (v := ?vla9) rfl (by kernel_rfl) (by kernel_rfl) (by kernel_rfl) (fun _ _ _ h => h) (Or.inl ⟨by kernel_rfl, ?yla9⟩) (by assumption) ?rla9
            case yla9 =>
              intro w hSw
              try dsimp only at hSw
              first | (go_simp; done) | (go_simp; with_reducible rfl)
            try simp only [Act.put, List.setIfInBounds_toArray, List.set_cons_zero, List.set_cons_succ]
            refine wpAnyH_ready (rs := [10]) (by kernel_rfl) (by simp) ?_
            refine AllReadyH.cons (i := 10) (o := ⟨some 71, _, _, _, _, _⟩) rfl (fun K hK => ?_) AllReadyH.nil
            go_simp
            refine (HLS.out _).mono ?_
            rintro e wz ⟨rfl, hbz⟩
            go_wp2_with fail
            refine hK.out _ _ ?_ (fun hHeld => ?_)
            · exact kept9 (by assumption) hbz
            clear hK K
            try simp only [Act.put, List.setIfInBounds_toArray, List.set_cons_zero, List.set_cons_succ]
            refine wpAnyH_done (by kernel_rfl) ?_ _
            replace HB := Lib.hid ((HB.out.below ((Below.refl _ _).drew)).below hbz)
            clear hbz d0 d1 d2 d3 e0 e1 e2 e3 x1 HLS hHeld
            go_wp2_with fail
            have HON := HONH.out
            have HO1 := Lib.hid (fun w1 (h : DcAt w.heap.size p m ts 20 w1) => dorder_any (ja : Int) (jb : Int) h)
            have HO2 := Lib.hid (fun w1 (h : DcAt w.heap.size p m ts 20 w1) => dorder_any (jb : Int) (ja : Int) h)
            rw [orderN_anti, HON] at HO2
            rw [HON] at HO1
            clear HON
            try simp only [Int.neg_neg, Int.neg_zero] at HO2
            refine (HO1.out _ HB.out.1).mono ?_
            rintro e wy ⟨rfl, hby⟩
            replace HB := Lib.hid (HB.out.below hby)
            clear hby
            go_wp2_with fail
            refine (HO2.out _ HB.out.1).mono ?_
            rintro e wy ⟨rfl, hby⟩
            replace HB := Lib.hid (HB.out.below hby)
            clear hby
            obtain ⟨x0, x1, x2, x3⟩ := cells2 HB.out.2.1
            go_wp2_with fail
            refine (is_any HG.out 20 20 _ _ (HM.out.below HB.out.bel) HB.out.1 HB.out.2.2.1 HB.out.2.2.2.1 HB.out.2.2.2.2.1).mono ?_
            rintro e wy ⟨rfl, hby⟩
            replace HB := Lib.hid (HB.out.below hby)
            clear hby x0 x1 x2 x3
            go_wp2_with fail
            go_ret
            exact ⟨rfl, HB.out.bel⟩
          | false =>
            obtain ⟨x0, x1, x2, x3⟩ := cells2 HB.out.2.1
            obtain ⟨gx, cx, hv, _, _, d0, d1, d2, d3⟩ := doc_at HB.out.2.2.1 ja hlja
            obtain ⟨gy, cy, hv2, _, _, e0, e1, e2, e3⟩ := doc_at HB.out.2.2.1 jb hljb
            obtain rfl : g = gx := by injection hv with hv _ _; injection hv with hv; injection hv
            obtain rfl : g = gy := by injection hv2 with hv2 _ _; injection hv2 with hv2; injection hv2
            clear hv hv2 x0 x2 x3
            have HLS := Lib.hid (fun w => rless_any ts[ja] ts[jb] w)
            unfold refT at HLS
            rw [hL1] at HLS
            have HLL := Lib.hid hL1
            clear hL1
            generalize kindV ts[ja] = k1 at d0 HLS
            generalize text0 ts[ja] = s1 at d1 HLS
            generalize text1 ts[ja] = t1 at d2 HLS
            generalize text2 ts[ja] = l1 at d3 HLS
            generalize kindV ts[jb] = k2 at e0 HLS
            generalize text0 ts[jb] = s2 at e1 HLS
            generalize text1 ts[jb] = t2 at e2 HLS
            generalize text2 ts[jb] = l2 at e3 HLS
            go_wp2_with fail
            refine wp_region_held_drew (S := (fun w' => w'.cell? ⟨w2.heap.size, 1, none⟩ = some (.slice (some ⟨g, 0, none⟩) ts.length cv) ∧ w'.cell? ⟨g, ja * 4, none⟩ = some (.int .i64 k1) ∧ w'.cell? ⟨g, ja * 4 + 1, none⟩ = some (.string s1) ∧ w'.cell? ⟨g, ja * 4 + 2, none⟩ = some (.string t1) ∧ w'.cell? ⟨g, ja * 4 + 3, none⟩ = some (.string l1) ∧ w'.cell? ⟨g, jb * 4, none⟩ = some (.int .i64 k2) ∧ w'.cell? ⟨g, jb * 4 + 1, none⟩ = some (.string s2) ∧ w'.cell? ⟨g, jb * 4 + 2, none⟩ = some (.string t2) ∧ w'.cell? ⟨g, jb * 4 + 3, none⟩ = some (.string l2))) (by kernel_rfl) ?hSla20 (fun hHeld => ?_)
            case hSla20 => exact ⟨x1, d0, d1, d2, d3, e0, e1, e2, e3⟩
            refine wpAnyH_take (i := 0) (oi := ⟨some 61, _, _, _, _, _⟩) (v := ?vla20) rfl (by kernel_rfl) (by kernel_rfl) (by kernel_rfl) (fun _ _ _ h => h) (Or.inl ⟨by kernel_rfl, ?yla20⟩) (by assumption) ?rla20
            case yla20 =>
              intro w hSw
              try dsimp only at hSw
              first | (go_simp; done) | (go_simp; with_reducible rfl)
            try simp only [Act.put, List.setIfInBounds_toArray, List.set_cons_zero, List.set_cons_succ]
            refine wpAnyH_take (i := 1) (oi := ⟨some 62, _, _, _, _, _⟩) (v := ?vla21) rfl (by kernel_rfl) (by kernel_rfl) (by kernel_rfl) (fun _ _ _ h => h) (Or.inl ⟨by kernel_rfl, ?yla21⟩) (by assumption) ?rla21
            case yla21 =>
              intro w hSw
              try dsimp only at hSw
              first | (go_simp; done) | (go_simp; with_reducible rfl)
            try simp only [Act.put, List.setIfInBounds_toArray, List.set_cons_zero, List.set_cons_succ]
            refine wpAnyH_take (i := 2) (oi := ⟨some 63, _, _, _, _, _⟩) (v := ?vla22) rfl (by kernel_rfl) (by kernel_rfl) (by kernel_rfl) (fun _ _ _ h => h) (Or.inl ⟨by kernel_rfl, ?yla22⟩) (by assumption) ?rla22
            case yla22 =>
              intro w hSw
              try dsimp only at hSw
              first | (go_simp; done) | (go_simp; with_reducible rfl)
            try simp only [Act.put, List.setIfInBounds_toArray, List.set_cons_zero, List.set_cons_succ]
            refine wpAnyH_take (i := 3) (oi := ⟨some 64, _, _, _, _, _⟩) (v := ?vla23) rfl (by kernel_rfl) (by kernel_rfl) (by kernel_rfl) (fun _ _ _ h => h) (Or.inl ⟨by kernel_rfl, ?yla23⟩) (by assumption) ?rla23
            case yla23 =>
              intro w hSw
              try dsimp only at hSw
              first | (go_simp; done) | (go_simp; with_reducible rfl)
            try simp only [Act.put, List.setIfInBounds_toArray, List.set_cons_zero, List.set_cons_succ]
            refine wpAnyH_take (i := 4) (oi := ⟨some 65, _, _, _, _, _⟩) (v := ?vla24) rfl (by kernel_rfl) (by kernel_rfl) (by kernel_rfl) (fun _ _ _ h => h) (Or.inl ⟨by kernel_rfl, ?yla24⟩) (by assumption) ?rla24
            case yla24 =>
              intro w hSw
              try dsimp only at hSw
              first | (go_simp; done) | (go_simp; with_reducible rfl)
            try simp only [Act.put, List.setIfInBounds_toArray, List.set_cons_zero, List.set_cons_succ]
            refine wpAnyH_take (i := 5) (oi := ⟨some 66, _, _, _, _, _⟩) (v := ?vla25) rfl (by kernel_rfl) (by kernel_rfl) (by kernel_rfl) (fun _ _ _ h => h) (Or.inl ⟨by kernel_rfl, ?yla25⟩) (by assumption) ?rla25
            case yla25 =>
              intro w hSw
              try dsimp only at hSw
              first | (go_simp; done) | (go_simp; with_reducible rfl)
            try simp only [Act.put, List.setIfInBounds_toArray, List.set_cons_zero, List.set_cons_succ]
            refine wpAnyH_take (i := 6) (oi := ⟨some 67, _, _, _, _, _⟩) (v := ?vla26) rfl (by kernel_rfl) (by kernel_rfl) (by kernel_rfl) (fun _ _ _ h => h) (Or.inl ⟨by kernel_rfl, ?yla26⟩) (by assumption) ?rla26
            case yla26 =>
              intro w hSw
              try dsimp only at hSw
              first | (go_simp; done) | (go_simp; with_reducible rfl)
            try simp only [Act.put, List.setIfInBounds_toArray, List.set_cons_zero, List.set_cons_succ]
            refine wpAnyH_take (i := 7) (oi := ⟨some 68, _, _, _, _, _⟩) (v := ?vla27) rfl (by kernel_rfl) (by kernel_rfl) (by kernel_rfl) (fun _ _ _ h => h) (Or.inl ⟨by kernel_rfl, ?yla27⟩) (by assumption) ?rla27
            case yla27 =>
              intro w hSw
              try dsimp only at hSw
              first | (go_simp; done) | (go_simp; with_reducible rfl)
            try simp only [Act.put, List.setIfInBounds_toArray, List.set_cons_zero, List.set_cons_succ]
            refine wpAnyH_take (i := 8) (oi := ⟨some 69, _, _, _, _, _⟩) (v := ?vla28) rfl (by kernel_rfl) (by kernel_rfl) (by kernel_rfl) (fun _ _ _ h => h) (Or.inl ⟨by kernel_rfl, ?yla28⟩) (by assumption) ?rla28
            case yla28 =>
              intro w hSw
              try dsimp only at hSw
              first | (go_simp; done) | (go_simp; with_reducible rfl)
            try simp only [Act.put, List.setIfInBounds_toArray, List.set_cons_zero, List.set_cons_succ]
            refine wpAnyH_take (i := 9) (oi := ⟨some 70, _, _, _, _, _⟩) (v := ?vla29) rfl (by kernel_rfl) (by kernel_rfl) (by kernel_rfl) (fun _ _ _ h => h) (Or.inl ⟨by kernel_rfl, ?yla29⟩) (by assumption) ?rla29
            case yla29 =>
              intro w hSw
              try dsimp only at hSw
              first | (go_simp; done) | (go_simp; with_reducible rfl)
            try simp only [Act.put, List.setIfInBounds_toArray, List.set_cons_zero, List.set_cons_succ]
            refine wpAnyH_ready (rs := [10]) (by kernel_rfl) (by simp) ?_
            refine AllReadyH.cons (i := 10) (o := ⟨some 71, _, _, _, _, _⟩) rfl (fun K hK => ?_) AllReadyH.nil
            go_simp
            refine (HLS.out _).mono ?_
            rintro e wz ⟨rfl, hbz⟩
            go_wp2_with fail
            refine hK.out _ _ ?_ (fun hHeld => ?_)
            · exact kept9 (by assumption) hbz
            clear hK K
            try simp only [Act.put, List.setIfInBounds_toArray, List.set_cons_zero, List.set_cons_succ]
            refine wpAnyH_done (by kernel_rfl) ?_ _
            replace HB := Lib.hid ((HB.out.below ((Below.refl _ _).drew)).below hbz)
            clear hbz d0 d1 d2 d3 e0 e1 e2 e3 x1 HLS hHeld
            go_wp2_with fail
            have HLA := Lib.hid HLL.out
            clear HLL
            cases hL2 : lessR ts[jb] ts[ja] with
            | true =>
              have HONH : Hid (orderN ts ja jb = 1) := Lib.hid (by
                rw [HONE.out]
                have := HO.out.2.1
                rw [hL2] at this
                have := of_decide_eq_true this.symm
                omega)
              obtain ⟨x0, x1, x2, x3⟩ := cells2 HB.out.2.1
              obtain ⟨gx, cx, hv, _, _, d0, d1, d2, d3⟩ := doc_at HB.out.2.2.1 jb hljb
              obtain ⟨gy, cy, hv2, _, _, e0, e1, e2, e3⟩ := doc_at HB.out.2.2.1 ja hlja
              obtain rfl : g = gx := by injection hv with hv _ _; injection hv with hv; injection hv
              obtain rfl : g = gy := by injection hv2 with hv2 _ _; injection hv2 with hv2; injection hv2
              clear hv hv2 x0 x2 x3
              have HLS := Lib.hid (fun w => rless_any ts[jb] ts[ja] w)
              unfold refT at HLS
              rw [hL2] at HLS
              have HLL := Lib.hid hL2
              clear hL2
              generalize kindV ts[jb] = k1 at d0 HLS
              generalize text0 ts[jb] = s1 at d1 HLS
              generalize text1 ts[jb] = t1 at d2 HLS
              generalize text2 ts[jb] = l1 at d3 HLS
              generalize kindV ts[ja] = k2 at e0 HLS
              generalize text0 ts[ja] = s2 at e1 HLS
              generalize text1 ts[ja] = t2 at e2 HLS
              generalize text2 ts[ja] = l2 at e3 HLS
              go_wp2_with fail
              refine wp_region_held_drew (S := (fun w' => w'.cell? ⟨w2.heap.size, 1, none⟩ = some (.slice (some ⟨g, 0, none⟩) ts.length cv) ∧ w'.cell? ⟨g, jb * 4, none⟩ = some (.int .i64 k1) ∧ w'.cell? ⟨g, jb * 4 + 1, none⟩ = some (.string s1) ∧ w'.cell? ⟨g, jb * 4 + 2, none⟩ = some (.string t1) ∧ w'.cell? ⟨g, jb * 4 + 3, none⟩ = some (.string l1) ∧ w'.cell? ⟨g, ja * 4, none⟩ = some (.int .i64 k2) ∧ w'.cell? ⟨g, ja * 4 + 1, none⟩ = some (.string s2) ∧ w'.cell? ⟨g, ja * 4 + 2, none⟩ = some (.string t2) ∧ w'.cell? ⟨g, ja * 4 + 3, none⟩ = some (.string l2))) (by kernel_rfl) ?hSlb0 (fun hHeld => ?_)
              case hSlb0 => exact ⟨x1, d0, d1, d2, d3, e0, e1, e2, e3⟩
              refine wpAnyH_take (i := 0) (oi := ⟨some 72, _, _, _, _, _⟩) (v := ?vlb0) rfl (by kernel_rfl) (by kernel_rfl) (by kernel_rfl) (fun _ _ _ h => h) (Or.inl ⟨by kernel_rfl, ?ylb0⟩) (by assumption) ?rlb0
              case ylb0 =>
                intro w hSw
                try dsimp only at hSw
                first | (go_simp; done) | (go_simp; with_reducible rfl)
              try simp only [Act.put, List.setIfInBounds_toArray, List.set_cons_zero, List.set_cons_succ]
              refine wpAnyH_take (i := 1) (oi := ⟨some 73, _, _, _, _, _⟩) (v := ?vlb1) rfl (by kernel_rfl) (by kernel_rfl) (by kernel_rfl) (fun _ _ _ h => h) (Or.inl ⟨by kernel_rfl, ?ylb1⟩) (by assumption) ?rlb1
              case ylb1 =>
                intro w hSw
                try dsimp only at hSw
                first | (go_simp; done) | (go_simp; with_reducible rfl)
              try simp only [Act.put, List.setIfInBounds_toArray, List.set_cons_zero, List.set_cons_succ]
              refine wpAnyH_take (i := 2) (oi := ⟨some 74, _, _, _, _, _⟩) (v := ?vlb2) rfl (by kernel_rfl) (by kernel_rfl) (by kernel_rfl) (fun _ _ _ h => h) (Or.inl ⟨by kernel_rfl, ?ylb2⟩) (by assumption) ?rlb2
              case ylb2 =>
                intro w hSw
                try dsimp only at hSw
                first | (go_simp; done) | (go_simp; with_reducible rfl)
              try simp only [Act.put, List.setIfInBounds_toArray, List.set_cons_zero, List.set_cons_succ]
              refine wpAnyH_take (i := 3) (oi := ⟨some 75, _, _, _, _, _⟩) (v := ?vlb3) rfl (by kernel_rfl) (by kernel_rfl) (by kernel_rfl) (fun _ _ _ h => h) (Or.inl ⟨by kernel_rfl, ?ylb3⟩) (by assumption) ?rlb3
              case ylb3 =>
                intro w hSw
                try dsimp only at hSw
                first | (go_simp; done) | (go_simp; with_reducible rfl)
              try simp only [Act.put, List.setIfInBounds_toArray, List.set_cons_zero, List.set_cons_succ]
              refine wpAnyH_take (i := 4) (oi := ⟨some 76, _, _, _, _, _⟩) (v := ?vlb4) rfl (by kernel_rfl) (by kernel_rfl) (by kernel_rfl) (fun _ _ _ h => h) (Or.inl ⟨by kernel_rfl, ?ylb4⟩) (by assumption) ?rlb4
              case ylb4 =>
                intro w hSw
                try dsimp only at hSw
                first | (go_simp; done) | (go_simp; with_reducible rfl)
              try simp only [Act.put, List.setIfInBounds_toArray, List.set_cons_zero, List.set_cons_succ]
              refine wpAnyH_take (i := 5) (oi := ⟨some 77, _, _, _, _, _⟩) (v := ?vlb5) rfl (by kernel_rfl) (by kernel_rfl) (by kernel_rfl) (fun _ _ _ h => h) (Or.inl ⟨by kernel_rfl, ?ylb5⟩) (by assumption) ?rlb5
              case ylb5 =>
                intro w hSw
                try dsimp only at hSw
                first | (go_simp; done) | (go_simp; with_reducible rfl)
              try simp only [Act.put, List.setIfInBounds_toArray, List.set_cons_zero, List.set_cons_succ]
              refine wpAnyH_take (i := 6) (oi := ⟨some 78, _, _, _, _, _⟩) (v := ?vlb6) rfl (by kernel_rfl) (by kernel_rfl) (by kernel_rfl) (fun _ _ _ h => h) (Or.inl ⟨by kernel_rfl, ?ylb6⟩) (by assumption) ?rlb6
              case ylb6 =>
                intro w hSw
                try dsimp only at hSw
                first | (go_simp; done) | (go_simp; with_reducible rfl)
              try simp only [Act.put, List.setIfInBounds_toArray, List.set_cons_zero, List.set_cons_succ]
              refine wpAnyH_take (i := 7) (oi := ⟨some 79, _, _, _, _, _⟩) (v := ?vlb7) rfl (by kernel_rfl) (by kernel_rfl) (by kernel_rfl) (fun _ _ _ h => h) (Or.inl ⟨by kernel_rfl, ?ylb7⟩) (by assumption) ?rlb7
              case ylb7 =>
                intro w hSw
                try dsimp only at hSw
                first | (go_simp; done) | (go_simp; with_reducible rfl)
              try simp only [Act.put, List.setIfInBounds_toArray, List.set_cons_zero, List.set_cons_succ]
              refine wpAnyH_take (i := 8) (oi := ⟨some 80, _, _, _, _, _⟩) (v := ?vlb8) rfl (by kernel_rfl) (by kernel_rfl) (by kernel_rfl) (fun _ _ _ h => h) (Or.inl ⟨by kernel_rfl, ?ylb8⟩) (by assumption) ?rlb8
              case ylb8 =>
                intro w hSw
                try dsimp only at hSw
                first | (go_simp; done) | (go_simp; with_reducible rfl)
              try simp only [Act.put, List.setIfInBounds_toArray, List.set_cons_zero, List.set_cons_succ]
              refine wpAnyH_take (i := 9) (oi := ⟨some 81, _, _, _, _, _⟩) (v := ?vlb9) rfl (by kernel_rfl) (by kernel_rfl) (by kernel_rfl) (fun _ _ _ h => h) (Or.inl ⟨by kernel_rfl, ?ylb9⟩) (by assumption) ?rlb9
              case ylb9 =>
                intro w hSw
                try dsimp only at hSw
                first | (go_simp; done) | (go_simp; with_reducible rfl)
              try simp only [Act.put, List.setIfInBounds_toArray, List.set_cons_zero, List.set_cons_succ]
              refine wpAnyH_ready (rs := [10]) (by kernel_rfl) (by simp) ?_
              refine AllReadyH.cons (i := 10) (o := ⟨some 82, _, _, _, _, _⟩) rfl (fun K hK => ?_) AllReadyH.nil
              go_simp
              refine (HLS.out _).mono ?_
              rintro e wz ⟨rfl, hbz⟩
              go_wp2_with fail
              refine hK.out _ _ ?_ (fun hHeld => ?_)
              · exact kept9 (by assumption) hbz
              clear hK K
              try simp only [Act.put, List.setIfInBounds_toArray, List.set_cons_zero, List.set_cons_succ]
              refine wpAnyH_done (by kernel_rfl) ?_ _
              replace HB := Lib.hid ((HB.out.below ((Below.refl _ _).drew)).below hbz)
              clear hbz d0 d1 d2 d3 e0 e1 e2 e3 x1 HLS hHeld
              go_wp2_with fail
              have HON := HONH.out
              have HO1 := Lib.hid (fun w1 (h : DcAt w.heap.size p m ts 20 w1) => dorder_any (ja : Int) (jb : Int) h)
              have HO2 := Lib.hid (fun w1 (h : DcAt w.heap.size p m ts 20 w1) => dorder_any (jb : Int) (ja : Int) h)
              rw [orderN_anti, HON] at HO2
              rw [HON] at HO1
              clear HON
              try simp only [Int.neg_neg, Int.neg_zero] at HO2
              refine (HO1.out _ HB.out.1).mono ?_
              rintro e wy ⟨rfl, hby⟩
              replace HB := Lib.hid (HB.out.below hby)
              clear hby
              go_wp2_with fail
              refine (HO2.out _ HB.out.1).mono ?_
              rintro e wy ⟨rfl, hby⟩
              replace HB := Lib.hid (HB.out.below hby)
              clear hby
              obtain ⟨x0, x1, x2, x3⟩ := cells2 HB.out.2.1
              go_wp2_with fail
              refine (is_any HG.out 20 20 _ _ (HM.out.below HB.out.bel) HB.out.1 HB.out.2.2.1 HB.out.2.2.2.1 HB.out.2.2.2.2.1).mono ?_
              rintro e wy ⟨rfl, hby⟩
              replace HB := Lib.hid (HB.out.below hby)
              clear hby x0 x1 x2 x3
              go_wp2_with fail
              go_ret
              exact ⟨rfl, HB.out.bel⟩
            | false =>
              have HONH : Hid (orderN ts ja jb = 0) := Lib.hid (by
                rw [HONE.out]
                have e1 := HO.out.1
                have e2 := HO.out.2.1
                rw [HLA.out] at e1
                rw [hL2] at e2
                have e3 := of_decide_eq_false e1.symm
                have e4 := of_decide_eq_false e2.symm
                rcases HO.out.2.2 with e | e | e <;> omega)
              obtain ⟨x0, x1, x2, x3⟩ := cells2 HB.out.2.1
              obtain ⟨gx, cx, hv, _, _, d0, d1, d2, d3⟩ := doc_at HB.out.2.2.1 jb hljb
              obtain ⟨gy, cy, hv2, _, _, e0, e1, e2, e3⟩ := doc_at HB.out.2.2.1 ja hlja
              obtain rfl : g = gx := by injection hv with hv _ _; injection hv with hv; injection hv
              obtain rfl : g = gy := by injection hv2 with hv2 _ _; injection hv2 with hv2; injection hv2
              clear hv hv2 x0 x2 x3
              have HLS := Lib.hid (fun w => rless_any ts[jb] ts[ja] w)
              unfold refT at HLS
              rw [hL2] at HLS
              have HLL := Lib.hid hL2
              clear hL2
              generalize kindV ts[jb] = k1 at d0 HLS
              generalize text0 ts[jb] = s1 at d1 HLS
              generalize text1 ts[jb] = t1 at d2 HLS
              generalize text2 ts[jb] = l1 at d3 HLS
              generalize kindV ts[ja] = k2 at e0 HLS
              generalize text0 ts[ja] = s2 at e1 HLS
              generalize text1 ts[ja] = t2 at e2 HLS
              generalize text2 ts[ja] = l2 at e3 HLS
              go_wp2_with fail
              refine wp_region_held_drew (S := (fun w' => w'.cell? ⟨w2.heap.size, 1, none⟩ = some (.slice (some ⟨g, 0, none⟩) ts.length cv) ∧ w'.cell? ⟨g, jb * 4, none⟩ = some (.int .i64 k1) ∧ w'.cell? ⟨g, jb * 4 + 1, none⟩ = some (.string s1) ∧ w'.cell? ⟨g, jb * 4 + 2, none⟩ = some (.string t1) ∧ w'.cell? ⟨g, jb * 4 + 3, none⟩ = some (.string l1) ∧ w'.cell? ⟨g, ja * 4, none⟩ = some (.int .i64 k2) ∧ w'.cell? ⟨g, ja * 4 + 1, none⟩ = some (.string s2) ∧ w'.cell? ⟨g, ja * 4 + 2, none⟩ = some (.string t2) ∧ w'.cell? ⟨g, ja * 4 + 3, none⟩ = some (.string l2))) (by kernel_rfl) ?hSlb20 (fun hHeld => ?_)
              case hSlb20 => exact ⟨x1, d0, d1, d2, d3, e0, e1, e2, e3⟩
              refine wpAnyH_take (i := 0) (oi := ⟨some 72, _, _, _, _, _⟩) (v := ?vlb20) rfl (by kernel_rfl) (by kernel_rfl) (by kernel_rfl) (fun _ _ _ h => h) (Or.inl ⟨by kernel_rfl, ?ylb20⟩) (by assumption) ?rlb20
              case ylb20 =>
                intro w hSw
                try dsimp only at hSw
                first | (go_simp; done) | (go_simp; with_reducible rfl)
              try simp only [Act.put, List.setIfInBounds_toArray, List.set_cons_zero, List.set_cons_succ]
              refine wpAnyH_take (i := 1) (oi := ⟨some 73, _, _, _, _, _⟩) (v := ?vlb21) rfl (by kernel_rfl) (by kernel_rfl) (by kernel_rfl) (fun _ _ _ h => h) (Or.inl ⟨by kernel_rfl, ?ylb21⟩) (by assumption) ?rlb21
              case ylb21 =>
                intro w hSw
                try dsimp only at hSw
                first | (go_simp; done) | (go_simp; with_reducible rfl)
              try simp only [Act.put, List.setIfInBounds_toArray, List.set_cons_zero, List.set_cons_succ]
              refine wpAnyH_take (i := 2) (oi := ⟨some 74, _, _, _, _, _⟩) (v := ?vlb22) rfl (by kernel_rfl) (by kernel_rfl) (by kernel_rfl) (fun _ _ _ h => h) (Or.inl ⟨by kernel_rfl, ?ylb22⟩) (by assumption) ?rlb22
              case ylb22 =>
                intro w hSw
                try dsimp only at hSw
                first | (go_simp; done) | (go_simp; with_reducible rfl)
              try simp only [Act.put, List.setIfInBounds_toArray, List.set_cons_zero, List.set_cons_succ]
              refine wpAnyH_take (i := 3) (oi := ⟨some 75, _, _, _, _, _⟩) (v := ?vlb23) rfl (by kernel_rfl) (by kernel_rfl) (by kernel_rfl) (fun _ _ _ h => h) (Or.inl ⟨by kernel_rfl, ?ylb23⟩) (by assumption) ?rlb23
              case ylb23 =>
                intro w hSw
                try dsimp only at hSw
                first | (go_simp; done) | (go_simp; with_reducible rfl)
              try simp only [Act.put, List.setIfInBounds_toArray, List.set_cons_zero, List.set_cons_succ]
              refine wpAnyH_take (i := 4) (oi := ⟨some 76, _, _, _, _, _⟩) (v := ?vlb24) rfl (by kernel_rfl) (by kernel_rfl) (by kernel_rfl) (fun _ _ _ h => h) (Or.inl ⟨by kernel_rfl, ?ylb24⟩) (by assumption) ?rlb24
              case ylb24 =>
                intro w hSw
                try dsimp only at hSw
                first | (go_simp; done) | (go_simp; with_reducible rfl)
              try simp only [Act.put, List.setIfInBounds_toArray, List.set_cons_zero, List.set_cons_succ]
              refine wpAnyH_take (i := 5) (oi := ⟨some 77, _, _, _, _, _⟩) (v := ?vlb25) rfl (by kernel_rfl) (by kernel_rfl) (by kernel_rfl) (fun _ _ _ h => h) (Or.inl ⟨by kernel_rfl, ?ylb25⟩) (by assumption) ?rlb25
              case ylb25 =>
                intro w hSw
                try dsimp only at hSw
                first | (go_simp; done) | (go_simp; with_reducible rfl)
              try simp only [Act.put, List.setIfInBounds_toArray, List.set_cons_zero, List.set_cons_succ]
              refine wpAnyH_take (i := 6) (oi := ⟨some 78, _, _, _, _, _⟩) (v := ?vlb26) rfl (by kernel_rfl) (by kernel_rfl) (by kernel_rfl) (fun _ _ _ h => h) (Or.inl ⟨by kernel_rfl, ?ylb26⟩) (by assumption) ?rlb26
              case ylb26 =>
                intro w hSw
                try dsimp only at hSw
                first | (go_simp; done) | (go_simp; with_reducible rfl)
              try simp only [Act.put, List.setIfInBounds_toArray, List.set_cons_zero, List.set_cons_succ]
              refine wpAnyH_take (i := 7) (oi := ⟨some 79, _, _, _, _, _⟩) (v := ?vlb27) rfl (by kernel_rfl) (by kernel_rfl) (by kernel_rfl) (fun _ _ _ h => h) (Or.inl ⟨by kernel_rfl, ?ylb27⟩) (by assumption) ?rlb27
              case ylb27 =>
                intro w hSw
                try dsimp only at hSw
                first | (go_simp; done) | (go_simp; with_reducible rfl)
              try simp only [Act.put, List.setIfInBounds_toArray, List.set_cons_zero, List.set_cons_succ]
              refine wpAnyH_take (i := 8) (oi := ⟨some 80, _, _, _, _, _⟩) (v := ?vlb28) rfl (by kernel_rfl) (by kernel_rfl) (by kernel_rfl) (fun _ _ _ h => h) (Or.inl ⟨by kernel_rfl, ?ylb28⟩) (by assumption) ?rlb28
              case ylb28 =>
                intro w hSw
                try dsimp only at hSw
                first | (go_simp; done) | (go_simp; with_reducible rfl)
              try simp only [Act.put, List.setIfInBounds_toArray, List.set_cons_zero, List.set_cons_succ]
              refine wpAnyH_take (i := 9) (oi := ⟨some 81, _, _, _, _, _⟩) (v := ?vlb29) rfl (by kernel_rfl) (by kernel_rfl) (by kernel_rfl) (fun _ _ _ h => h) (Or.inl ⟨by kernel_rfl, ?ylb29⟩) (by assumption) ?rlb29
              case ylb29 =>
                intro w hSw
                try dsimp only at hSw
                first | (go_simp; done) | (go_simp; with_reducible rfl)
              try simp only [Act.put, List.setIfInBounds_toArray, List.set_cons_zero, List.set_cons_succ]
              refine wpAnyH_ready (rs := [10]) (by kernel_rfl) (by simp) ?_
              refine AllReadyH.cons (i := 10) (o := ⟨some 82, _, _, _, _, _⟩) rfl (fun K hK => ?_) AllReadyH.nil
              go_simp
              refine (HLS.out _).mono ?_
              rintro e wz ⟨rfl, hbz⟩
              go_wp2_with fail
              refine hK.out _ _ ?_ (fun hHeld => ?_)
              · exact kept9 (by assumption) hbz
              clear hK K
              try simp only [Act.put, List.setIfInBounds_toArray, List.set_cons_zero, List.set_cons_succ]
              refine wpAnyH_done (by kernel_rfl) ?_ _
              replace HB := Lib.hid ((HB.out.below ((Below.refl _ _).drew)).below hbz)
              clear hbz d0 d1 d2 d3 e0 e1 e2 e3 x1 HLS hHeld
              go_wp2_with fail
              have HON := HONH.out
              have HO1 := Lib.hid (fun w1 (h : DcAt w.heap.size p m ts 20 w1) => dorder_any (ja : Int) (jb : Int) h)
              have HO2 := Lib.hid (fun w1 (h : DcAt w.heap.size p m ts 20 w1) => dorder_any (jb : Int) (ja : Int) h)
              rw [orderN_anti, HON] at HO2
              rw [HON] at HO1
              clear HON
              try simp only [Int.neg_neg, Int.neg_zero] at HO2
              refine (HO1.out _ HB.out.1).mono ?_
              rintro e wy ⟨rfl, hby⟩
              replace HB := Lib.hid (HB.out.below hby)
              clear hby
              go_wp2_with fail
              refine (HO2.out _ HB.out.1).mono ?_
              rintro e wy ⟨rfl, hby⟩
              replace HB := Lib.hid (HB.out.below hby)
              clear hby
              obtain ⟨x0, x1, x2, x3⟩ := cells2 HB.out.2.1
              go_wp2_with fail
              refine (is_any HG.out 20 20 _ _ (HM.out.below HB.out.bel) HB.out.1 HB.out.2.2.1 HB.out.2.2.2.1 HB.out.2.2.2.2.1).mono ?_
              rintro e wy ⟨rfl, hby⟩
              replace HB := Lib.hid (HB.out.below hby)
              clear hby x0 x1 x2 x3
              go_wp2_with fail
              go_ret
              exact ⟨rfl, HB.out.bel⟩
        | false =>
          have HON : orderN ts a b = -1 := by unfold orderN; rw [h1, h2]; rfl
          refine (hasm_any a HB.out.2.1 HB.out.2.2.1).mono ?_
          rintro e wz ⟨rfl, rfl⟩
          rw [h1]
          go_wp2_with fail
          refine (hasm_any b HB.out.2.1 HB.out.2.2.1).mono ?_
          rintro e wz ⟨rfl, rfl⟩
          rw [h2]
          go_wp2_with fail
          refine (hasm_any a HB.out.2.1 HB.out.2.2.1).mono ?_
          rintro e wz ⟨rfl, rfl⟩
          rw [h1]
          go_wp2_with fail
          have HO1 := Lib.hid (fun w1 (h : DcAt w.heap.size p m ts 20 w1) => dorder_any a b h)
          have HO2 := Lib.hid (fun w1 (h : DcAt w.heap.size p m ts 20 w1) => dorder_any b a h)
          rw [orderN_anti, HON] at HO2
          rw [HON] at HO1
          clear HON
          try simp only [Int.neg_neg, Int.neg_zero] at HO2
          refine (HO1.out _ HB.out.1).mono ?_
          rintro e wy ⟨rfl, hby⟩
          replace HB := Lib.hid (HB.out.below hby)
          clear hby
          go_wp2_with fail
          refine (HO2.out _ HB.out.1).mono ?_
          rintro e wy ⟨rfl, hby⟩
          replace HB := Lib.hid (HB.out.below hby)
          clear hby
          obtain ⟨x0, x1, x2, x3⟩ := cells2 HB.out.2.1
          go_wp2_with fail
          refine (is_any HG.out 20 20 _ _ (HM.out.below HB.out.bel) HB.out.1 HB.out.2.2.1 HB.out.2.2.2.1 HB.out.2.2.2.2.1).mono ?_
          rintro e wy ⟨rfl, hby⟩
          replace HB := Lib.hid (HB.out.below hby)
          clear hby x0 x1 x2 x3
          go_wp2_with fail
          go_ret
          exact ⟨rfl, HB.out.bel⟩
      | false =>
        cases h2 : hasN b ts.length with
        | true =>
          have HON : orderN ts a b = 1 := by unfold orderN; rw [h1, h2]; rfl
          refine (hasm_any a HB.out.2.1 HB.out.2.2.1).mono ?_
          rintro e wz ⟨rfl, rfl⟩
          rw [h1]
          go_wp2_with fail
          refine (hasm_any a HB.out.2.1 HB.out.2.2.1).mono ?_
          rintro e wz ⟨rfl, rfl⟩
          rw [h1]
          go_wp2_with fail
          refine (hasm_any b HB.out.2.1 HB.out.2.2.1).mono ?_
          rintro e wz ⟨rfl, rfl⟩
          rw [h2]
          go_wp2_with fail
          refine (hasm_any b HB.out.2.1 HB.out.2.2.1).mono ?_
          rintro e wz ⟨rfl, rfl⟩
          rw [h2]
          go_wp2_with fail
          have HO1 := Lib.hid (fun w1 (h : DcAt w.heap.size p m ts 20 w1) => dorder_any a b h)
          have HO2 := Lib.hid (fun w1 (h : DcAt w.heap.size p m ts 20 w1) => dorder_any b a h)
          rw [orderN_anti, HON] at HO2
          rw [HON] at HO1
          clear HON
          try simp only [Int.neg_neg, Int.neg_zero] at HO2
          refine (HO1.out _ HB.out.1).mono ?_
          rintro e wy ⟨rfl, hby⟩
          replace HB := Lib.hid (HB.out.below hby)
          clear hby
          go_wp2_with fail
          refine (HO2.out _ HB.out.1).mono ?_
          rintro e wy ⟨rfl, hby⟩
          replace HB := Lib.hid (HB.out.below hby)
          clear hby
          obtain ⟨x0, x1, x2, x3⟩ := cells2 HB.out.2.1
          go_wp2_with fail
          refine (is_any HG.out 20 20 _ _ (HM.out.below HB.out.bel) HB.out.1 HB.out.2.2.1 HB.out.2.2.2.1 HB.out.2.2.2.2.1).mono ?_
          rintro e wy ⟨rfl, hby⟩
          replace HB := Lib.hid (HB.out.below hby)
          clear hby x0 x1 x2 x3
          go_wp2_with fail
          go_ret
          exact ⟨rfl, HB.out.bel⟩
        | false =>
          have hcm : orderN ts a b = cmpI a b := by unfold orderN; rw [h1, h2]; rfl
          have HCM := Lib.hid hcm
          clear hcm
          rcases Int.lt_trichotomy a b with hab | hab | hab
          · have t5 : decide (a < b) = true := decide_eq_true hab
            have HONH : Hid (orderN ts a b = -1) := Lib.hid (by rw [HCM.out]; unfold cmpI; split <;> omega)
            refine (hasm_any a HB.out.2.1 HB.out.2.2.1).mono ?_
            rintro e wz ⟨rfl, rfl⟩
            rw [h1]
            go_wp2_with fail
            refine (hasm_any a HB.out.2.1 HB.out.2.2.1).mono ?_
            rintro e wz ⟨rfl, rfl⟩
            rw [h1]
            go_wp2_with fail
            refine (hasm_any b HB.out.2.1 HB.out.2.2.1).mono ?_
            rintro e wz ⟨rfl, rfl⟩
            rw [h2]
            go_wp2_with fail
            have HON := HONH.out
            have HO1 := Lib.hid (fun w1 (h : DcAt w.heap.size p m ts 20 w1) => dorder_any a b h)
            have HO2 := Lib.hid (fun w1 (h : DcAt w.heap.size p m ts 20 w1) => dorder_any b a h)
            rw [orderN_anti, HON] at HO2
            rw [HON] at HO1
            clear HON
            try simp only [Int.neg_neg, Int.neg_zero] at HO2
            refine (HO1.out _ HB.out.1).mono ?_
            rintro e wy ⟨rfl, hby⟩
            replace HB := Lib.hid (HB.out.below hby)
            clear hby
            go_wp2_with fail
            refine (HO2.out _ HB.out.1).mono ?_
            rintro e wy ⟨rfl, hby⟩
            replace HB := Lib.hid (HB.out.below hby)
            clear hby
            obtain ⟨x0, x1, x2, x3⟩ := cells2 HB.out.2.1
            go_wp2_with fail
            refine (is_any HG.out 20 20 _ _ (HM.out.below HB.out.bel) HB.out.1 HB.out.2.2.1 HB.out.2.2.2.1 HB.out.2.2.2.2.1).mono ?_
            rintro e wy ⟨rfl, hby⟩
            replace HB := Lib.hid (HB.out.below hby)
            clear hby x0 x1 x2 x3
            go_wp2_with fail
            go_ret
            exact ⟨rfl, HB.out.bel⟩
          · subst hab
            have HONH : Hid (orderN ts a a = 0) := Lib.hid (by rw [HCM.out]; unfold cmpI; (repeat' split) <;> omega)
            refine (hasm_any a HB.out.2.1 HB.out.2.2.1).mono ?_
            rintro e wz ⟨rfl, rfl⟩
            rw [h1]
            go_wp2_with fail
            refine (hasm_any a HB.out.2.1 HB.out.2.2.1).mono ?_
            rintro e wz ⟨rfl, rfl⟩
            rw [h1]
            go_wp2_with fail
            refine (hasm_any a HB.out.2.1 HB.out.2.2.1).mono ?_
            rintro e wz ⟨rfl, rfl⟩
            rw [h2]
            go_wp2_with fail
            refine (hasm_any a HB.out.2.1 HB.out.2.2.1).mono ?_
            rintro e wz ⟨rfl, rfl⟩
            rw [h2]
            go_wp2_with fail
            have HON := HONH.out
            have HO1 := Lib.hid (fun w1 (h : DcAt w.heap.size p m ts 20 w1) => dorder_any a a h)
            have HO2 := Lib.hid (fun w1 (h : DcAt w.heap.size p m ts 20 w1) => dorder_any a a h)
            rw [orderN_anti, HON] at HO2
            rw [HON] at HO1
            clear HON
            try simp only [Int.neg_neg, Int.neg_zero] at HO2
            refine (HO1.out _ HB.out.1).mono ?_
            rintro e wy ⟨rfl, hby⟩
            replace HB := Lib.hid (HB.out.below hby)
            clear hby
            go_wp2_with fail
            refine (HO2.out _ HB.out.1).mono ?_
            rintro e wy ⟨rfl, hby⟩
            replace HB := Lib.hid (HB.out.below hby)
            clear hby
            obtain ⟨x0, x1, x2, x3⟩ := cells2 HB.out.2.1
            go_wp2_with fail
            refine (is_any HG.out 20 20 _ _ (HM.out.below HB.out.bel) HB.out.1 HB.out.2.2.1 HB.out.2.2.2.1 HB.out.2.2.2.2.1).mono ?_
            rintro e wy ⟨rfl, hby⟩
            replace HB := Lib.hid (HB.out.below hby)
            clear hby x0 x1 x2 x3
            go_wp2_with fail
            go_ret
            exact ⟨rfl, HB.out.bel⟩
          · have t5 : decide (a < b) = false := decide_eq_false (by omega)
            have t6 : decide (b < a) = true := decide_eq_true hab
            have HONH : Hid (orderN ts a b = 1) := Lib.hid (by rw [HCM.out]; unfold cmpI; (repeat' split) <;> omega)
            refine (hasm_any a HB.out.2.1 HB.out.2.2.1).mono ?_
            rintro e wz ⟨rfl, rfl⟩
            rw [h1]
            go_wp2_with fail
            refine (hasm_any a HB.out.2.1 HB.out.2.2.1).mono ?_
            rintro e wz ⟨rfl, rfl⟩
            rw [h1]
            go_wp2_with fail
            refine (hasm_any b HB.out.2.1 HB.out.2.2.1).mono ?_
            rintro e wz ⟨rfl, rfl⟩
            rw [h2]
            go_wp2_with fail
            refine (hasm_any b HB.out.2.1 HB.out.2.2.1).mono ?_
            rintro e wz ⟨rfl, rfl⟩
            rw [h2]
            go_wp2_with fail
            have HON := HONH.out
            have HO1 := Lib.hid (fun w1 (h : DcAt w.heap.size p m ts 20 w1) => dorder_any a b h)
            have HO2 := Lib.hid (fun w1 (h : DcAt w.heap.size p m ts 20 w1) => dorder_any b a h)
            rw [orderN_anti, HON] at HO2
            rw [HON] at HO1
            clear HON
            try simp only [Int.neg_neg, Int.neg_zero] at HO2
            refine (HO1.out _ HB.out.1).mono ?_
            rintro e wy ⟨rfl, hby⟩
            replace HB := Lib.hid (HB.out.below hby)
            clear hby
            go_wp2_with fail
            refine (HO2.out _ HB.out.1).mono ?_
            rintro e wy ⟨rfl, hby⟩
            replace HB := Lib.hid (HB.out.below hby)
            clear hby
            obtain ⟨x0, x1, x2, x3⟩ := cells2 HB.out.2.1
            go_wp2_with fail
            refine (is_any HG.out 20 20 _ _ (HM.out.below HB.out.bel) HB.out.1 HB.out.2.2.1 HB.out.2.2.2.1 HB.out.2.2.2.2.1).mono ?_
            rintro e wy ⟨rfl, hby⟩
            replace HB := Lib.hid (HB.out.below hby)
            clear hby x0 x1 x2 x3
            go_wp2_with fail
            go_ret
            exact ⟨rfl, HB.out.bel⟩
end Go.Proofs.Ytghimladdioajaa
