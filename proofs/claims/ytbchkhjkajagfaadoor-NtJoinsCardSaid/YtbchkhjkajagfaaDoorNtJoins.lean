/- The law NtJoins: its walk. Every two rows of triples. -/
import Derived.Test.YtbchkhjkajagfaaDoorNtT3
import Derived.Test.YtbchkhjkajagfaaDoorNtAwake
namespace Go.Proofs.YtbchkhjkajagfaaDoor
open Go Go.RowKit
set_option linter.unusedVariables false
set_option linter.unusedSimpArgs false
set_option maxRecDepth 100000
theorem alloc_below (w : World) (o : Obj) : Below w.heap.size w (w.alloc o) := (Below.refl _ _).alloc (Nat.le_refl _) o
set_option maxHeartbeats 25600000 in
theorem ntjoins_walk (a1 a2 : Option Addr) (rs1 rs2 : List Raw3) (cap1 cap2 : Nat) (w : World) (he : Esc w) (hm : MaxV w) (h1 : Raw3sAt w a1 rs1) (h2 : Raw3sAt w a2 rs2) (hl1 : rs1.length ≤ 9223372036854775807) (hl2 : rs2.length ≤ 9223372036854775807) :
    Calls Tryd.prog 7 #[.slice a1 rs1.length cap1, .slice a2 rs2.length cap2] w fun e w' => e = .returned (.bool true) ∧ Below w.heap.size w w' := by
  obtain ⟨G, hG⟩ := good_fn
  have HA := Lib.hid (fun w' (hb : Below w.heap.size w w') => nawake_any hG w' (he.below he.lt hb) (hm.below hb))
  have HEs := Lib.hid he
  have HMs := Lib.hid hm
  have HGF := Lib.hid hG
  have HF1 := Lib.hid (fun w' (hb : Below w.heap.size w w') => few_any a1 rs1 cap1 w' (h1.below hb) hl1)
  have HF2 := Lib.hid (fun w' (hb : Below w.heap.size w w') => few_any a2 rs2 cap2 w' (h2.below hb) hl2)
  clear he hm hG h1 h2
  cases hf1 : fewB rs1 with
  | false =>
    rw [hf1] at HF1
    go_enter Tryd.func7, Tryd.ntmps7
    go_wp2_with fail
    refine (HA.out _ (Below.refl _ _)).mono ?_
    rintro e w1 ⟨rfl, hb1⟩
    have HB1 := Lib.hid hb1
    clear hb1
    go_wp2_with fail
    refine (HF1.out _ HB1.out).mono ?_
    rintro e w2 ⟨V5, rfl, hb2, hr5⟩
    have HB2 := Lib.hid (HB1.out.trans (hb2.mono HB1.out.size))
    clear hb2
    go_wp2_with fail
    refine (HF2.out _ HB2.out).mono ?_
    rintro e w0 ⟨V7, rfl, hb3, hr7⟩
    have HB3 := Lib.hid (HB2.out.trans (hb3.mono HB2.out.size))
    clear hb3 hr5 hr7 hf1
    go_wp2_with fail
    go_ret
    exact ⟨rfl, HB3.out⟩
  | true =>
  cases hf2 : fewB rs2 with
  | false =>
    rw [hf1] at HF1
    rw [hf2] at HF2
    go_enter Tryd.func7, Tryd.ntmps7
    go_wp2_with fail
    refine (HA.out _ (Below.refl _ _)).mono ?_
    rintro e w1 ⟨rfl, hb1⟩
    have HB1 := Lib.hid hb1
    clear hb1
    go_wp2_with fail
    refine (HF1.out _ HB1.out).mono ?_
    rintro e w2 ⟨V5, rfl, hb2, hr5⟩
    have HB2 := Lib.hid (HB1.out.trans (hb2.mono HB1.out.size))
    clear hb2
    go_wp2_with fail
    refine (HF2.out _ HB2.out).mono ?_
    rintro e w0 ⟨V7, rfl, hb3, hr7⟩
    have HB3 := Lib.hid (HB2.out.trans (hb3.mono HB2.out.size))
    clear hb3 hr5 hr7 hf1 hf2
    go_wp2_with fail
    go_ret
    exact ⟨rfl, HB3.out⟩
  | true =>
  have HKEY1 := Lib.hid (fun k (hk : k < (fewT rs1).length) => fewT_key rs1 _ (List.getElem_mem hk))
  have HKEY2 := Lib.hid (fun k (hk : k < (fewT rs2).length) => fewT_key rs2 _ (List.getElem_mem hk))
  have HSM1 := Lib.hid (fun k (hk : k < (fewT rs1).length) => fewT_small hf1 _ (List.getElem_mem hk))
  have HSM2 := Lib.hid (fun k (hk : k < (fewT rs2).length) => fewT_small hf2 _ (List.getElem_mem hk))
  have HG1 : Hid (∀ t ∈ goods G (fewT rs1), GoodTri G t ∧ SmallTri t ∧ ShortTri t ∧ KeyTri t) := Lib.hid (fun t ht => ⟨good_of HGF.out (fewT_small hf1 _ (goods_mem ht).1) (goods_mem ht).2, fewT_small hf1 _ (goods_mem ht).1, few_short hf1 _ (goods_mem ht).1, fewT_key rs1 _ (goods_mem ht).1⟩)
  have HG2 : Hid (∀ t ∈ goods G (fewT rs2), GoodTri G t ∧ SmallTri t ∧ ShortTri t ∧ KeyTri t) := Lib.hid (fun t ht => ⟨good_of HGF.out (fewT_small hf2 _ (goods_mem ht).1) (goods_mem ht).2, fewT_small hf2 _ (goods_mem ht).1, few_short hf2 _ (goods_mem ht).1, fewT_key rs2 _ (goods_mem ht).1⟩)
  have HLEN1 := Lib.hid (fewT_len rs1)
  have HLEN2 := Lib.hid (fewT_len rs2)
  rw [hf1] at HF1
  rw [hf2] at HF2
  obtain ⟨ts1, hts1⟩ : ∃ ts, ts = fewT rs1 := ⟨_, rfl⟩
  obtain ⟨ts2, hts2⟩ : ∃ ts, ts = fewT rs2 := ⟨_, rfl⟩
  rw [← hts1] at HKEY1 HSM1 HG1 HLEN1 HF1
  rw [← hts2] at HKEY2 HSM2 HG2 HLEN2 HF2
  clear hts1 hts2 hf1 hf2
  go_enter Tryd.func7, Tryd.ntmps7
  go_wp2_with fail
  refine (HA.out _ (Below.refl _ _)).mono ?_
  rintro e w1 ⟨rfl, hb1⟩
  have HB1 := Lib.hid hb1
  clear hb1
  go_wp2_with fail
  refine (HF1.out _ HB1.out).mono ?_
  rintro e w2 ⟨V5, rfl, hb2, hr5⟩
  have HB2 := Lib.hid (HB1.out.trans (hb2.mono HB1.out.size))
  clear hb2
  go_wp2_with fail
  refine (HF2.out _ HB2.out).mono ?_
  rintro e w0 ⟨V7, rfl, hb3, hr7⟩
  have HR5 := Lib.hid ((hr5 (by trivial)).below hb3)
  have HR7 := Lib.hid (hr7 (by trivial))
  have HB3 := Lib.hid (HB2.out.trans (hb3.mono HB2.out.size))
  obtain ⟨a5, c5, rfl⟩ := HR5.out.form
  obtain ⟨a7, c7, rfl⟩ := HR7.out.form
  have hn1 : ts1.length ≤ 9223372036854775807 := by have := HLEN1.out; omega
  have hn2 : ts2.length ≤ 9223372036854775807 := by have := HLEN2.out; omega
  clear hb3 hr5 hr7 HF1 HF2 HA
  go_wp2_with fail
  go_loopw [9, 10, 39] (fun V U i wr => ∃ k : Nat, k ≤ ts1.length ∧ i = .int .i64 k ∧ Hid (T3 w0 V (goods G (ts1.take k)) U (goods G (ts1.take k)) (.slice none 0 0) [] wr)) (fun _ _ i _ => ts1.length - (intOf i).toNat)
  case atStart => exact ⟨0, by omega, rfl, Lib.hid (T3.start w0)⟩
  case round =>
    obtain ⟨k, hk, rfl, HT⟩ := hrel
    have HOWN := Lib.hid (fun q e => (HT.out.2.1.own_lt q e).2)
    have HOWNU := Lib.hid (fun q e => (HT.out.2.2.1.own_lt q e).2)
    obtain ⟨wo, hwo⟩ : ∃ wo : World, wo = wr := ⟨_, rfl⟩
    subst hwo
    by_cases hlt : k < ts1.length
    · obtain ⟨gb, gc, hv, hgb, r0, r1, r2, r3, r4, r5, r6, r7, r8, r9, r10, r11⟩ := rtri_at (HR5.out.below HT.out.1) k hlt
      obtain rfl : a5 = some ⟨gb, 0, none⟩ := by injection hv
      have HKT := Lib.hid (HKEY1.out k hlt)
      have HGD := Lib.hid (fun w => rgood3_any HGF.out (ts1[k]'hlt) (HSM1.out k hlt) w)
      have HRL := Lib.hid (fun w => real3_any (ts1[k]'hlt) HKT.out w)
      have HYES := Lib.hid (fun h => goods_yes (G := G) (ts := ts1) (k := k) hlt h)
      have HNO := Lib.hid (fun h => goods_no (G := G) (ts := ts1) (k := k) hlt h)
      have HGL := Lib.hid (goods_len G (ts1.take k))
      skip
      have htl : (ts1.take k).length ≤ 10 := by rw [List.length_take]; have := HLEN1.out; omega
      obtain ⟨t, ht⟩ : ∃ t, t = ts1[k]'hlt := ⟨_, rfl⟩
      rw [← ht] at r0 r1 r2 r3 r4 r5 r6 r7 r8 r9 r10 r11 HKT HGD HRL HYES HNO
      obtain ⟨gx, hgx⟩ : ∃ gx, gx = goodTri G t := ⟨_, rfl⟩
      rw [← hgx] at HGD HYES HNO
      unfold rtriV at HGD HRL
      obtain ⟨k1, hk1⟩ : ∃ x, x = kindV t.s := ⟨_, rfl⟩
      obtain ⟨x1, hx1⟩ : ∃ x, x = text0 t.s := ⟨_, rfl⟩
      obtain ⟨y1, hy1⟩ : ∃ x, x = text1 t.s := ⟨_, rfl⟩
      obtain ⟨z1, hz1⟩ : ∃ x, x = text2 t.s := ⟨_, rfl⟩
      obtain ⟨k2, hk2⟩ : ∃ x, x = kindV t.p := ⟨_, rfl⟩
      obtain ⟨x2, hx2⟩ : ∃ x, x = text0 t.p := ⟨_, rfl⟩
      obtain ⟨y2, hy2⟩ : ∃ x, x = text1 t.p := ⟨_, rfl⟩
      obtain ⟨z2, hz2⟩ : ∃ x, x = text2 t.p := ⟨_, rfl⟩
      obtain ⟨k3, hk3⟩ : ∃ x, x = kindV t.o := ⟨_, rfl⟩
      obtain ⟨x3, hx3⟩ : ∃ x, x = text0 t.o := ⟨_, rfl⟩
      obtain ⟨y3, hy3⟩ : ∃ x, x = text1 t.o := ⟨_, rfl⟩
      obtain ⟨z3, hz3⟩ : ∃ x, x = text2 t.o := ⟨_, rfl⟩
      have HRC : Hid (rtriC t = [.int .i64 k1, .string x1, .string y1, .string z1, .int .i64 k2, .string x2, .string y2, .string z2, .int .i64 k3, .string x3, .string y3, .string z3]) := Lib.hid (by rw [hk1, hx1, hy1, hz1, hk2, hx2, hy2, hz2, hk3, hx3, hy3, hz3]; rfl)
      rw [← hk1, ← hx1, ← hy1, ← hz1, ← hk2, ← hx2, ← hy2, ← hz2, ← hk3, ← hx3, ← hy3, ← hz3] at HGD HRL
      rw [← hk1] at r0
      rw [← hx1] at r1
      rw [← hy1] at r2
      rw [← hz1] at r3
      rw [← hk2] at r4
      rw [← hx2] at r5
      rw [← hy2] at r6
      rw [← hz2] at r7
      rw [← hk3] at r8
      rw [← hx3] at r9
      rw [← hy3] at r10
      rw [← hz3] at r11
      clear hk1 hx1 hy1 hz1 hk2 hx2 hy2 hz2 hk3 hx3 hy3 hz3
      have b1 : (0 : Int) ≤ (k : Int) := by omega
      have b2 : (k : Int) < (ts1.length : Int) := by omega
      obtain ⟨W1, hW1⟩ : ∃ W1, W1 = wo.alloc (.cells #[.int .i64 k1, .string x1, .string y1, .string z1, .int .i64 k2, .string x2, .string y2, .string z2, .int .i64 k3, .string x3, .string y3, .string z3] 47) := ⟨_, rfl⟩
      have HX1 : Hid (W1.heap[wo.heap.size]? = some (.cells #[.int .i64 k1, .string x1, .string y1, .string z1, .int .i64 k2, .string x2, .string y2, .string z2, .int .i64 k3, .string x3, .string y3, .string z3] 47 (0, 0))) := Lib.hid (by rw [hW1]; exact blk_new wo _ _)
      have HT1 := Lib.hid (show _ from HT.out.below (show Below wo.heap.size wo W1 from by rw [hW1]; exact alloc_below wo _))
      have HW1 := Lib.hid hW1
      obtain ⟨d0, d1, d2, d3, d4, d5, d6, d7, d8, d9, d10, d11⟩ := cells12 HX1.out
      clear hv hgb hW1 ht
      cases gx with
      | false =>
        clear hgx
        go_wp2_with fail
        rw [← HW1.out]
        refine (HGD.out _).mono ?_
        rintro e w2 ⟨rfl, hb2⟩
        have HT2 := Lib.hid (HT1.out.below hb2)
        clear hb2
        go_wp2_with fail
        go_round
        case measure => simp only [intOf]; omega
        case rel => exact ⟨k + 1, by omega, by push_cast; rfl, by rw [HNO.out (by trivial)]; exact HT2⟩
      | true =>
        obtain ⟨T1, Y1, e1⟩ := key_iface HKT.out.1
        obtain ⟨T2, Y2, e2⟩ := key_iface HKT.out.2.1
        obtain ⟨T3, Y3, e3⟩ := key_iface HKT.out.2.2
        have HTC : Hid (triC t = [.iface T1 Y1, .iface T2 Y2, .iface T3 Y3]) := Lib.hid (by unfold triC; rw [e1, e2, e3])
        unfold triV at HRL
        rw [e1, e2, e3] at HRL
        clear e1 e2 e3 hgx
        go_wp2_with fail
        rw [← HW1.out]
        refine (HGD.out _).mono ?_
        rintro e w2 ⟨rfl, hb2⟩
        have HT2 := Lib.hid (HT1.out.below hb2)
        have HX2 := Lib.hid (boxb HX1.out hb2)
        have HB0 := Lib.hid (Nat.le_trans HT1.out.1.size hb2.size)
        obtain ⟨va, vc, hva⟩ := HT2.out.2.1.form
        obtain ⟨nv, hnv⟩ : ∃ n, n = List.length (goods G (ts1.take k)) := ⟨_, rfl⟩
        rw [← hnv] at hva
        subst hva
        obtain ⟨ua, uc, rfl⟩ := HT2.out.2.2.1.form
        clear hnv
        clear hb2 d0 d1 d2 d3 d4 d5 d6 d7 d8 d9 d10 d11
        go_wp2_with fail
        refine wp_region_held_drew (S := (fun w' => w'.heap[wo.heap.size]? = some (.cells #[.int .i64 k1, .string x1, .string y1, .string z1, .int .i64 k2, .string x2, .string y2, .string z2, .int .i64 k3, .string x3, .string y3, .string z3] 47 (0, 0)))) (by kernel_rfl) ?hSjna0 (fun hHeld => ?_)
        case hSjna0 => exact HX2.out
        refine wpAnyH_take (i := 0) (oi := ⟨some 45, _, _, _, _, _⟩) (v := ?vjna0) rfl (by kernel_rfl) (by kernel_rfl) (by kernel_rfl) (fun _ _ _ h => h) (Or.inl ⟨by kernel_rfl, ?yjna0⟩) (by assumption) ?rjna0
        case yjna0 =>
          intro w hSw
          try dsimp only at hSw
          obtain ⟨c0, c1, c2, c3, c4, c5, c6, c7, c8, c9, c10, c11⟩ := cells12 hSw
          first | (go_simp; done) | (go_simp; with_reducible rfl)
        try simp only [Act.put, List.setIfInBounds_toArray, List.set_cons_zero, List.set_cons_succ]
        refine wpAnyH_take (i := 1) (oi := ⟨some 46, _, _, _, _, _⟩) (v := ?vjna1) rfl (by kernel_rfl) (by kernel_rfl) (by kernel_rfl) (fun _ _ _ h => h) (Or.inl ⟨by kernel_rfl, ?yjna1⟩) (by assumption) ?rjna1
        case yjna1 =>
          intro w hSw
          try dsimp only at hSw
          obtain ⟨c0, c1, c2, c3, c4, c5, c6, c7, c8, c9, c10, c11⟩ := cells12 hSw
          first | (go_simp; done) | (go_simp; with_reducible rfl)
        try simp only [Act.put, List.setIfInBounds_toArray, List.set_cons_zero, List.set_cons_succ]
        refine wpAnyH_take (i := 4) (oi := ⟨some 49, _, _, _, _, _⟩) (v := ?vjna4) rfl (by kernel_rfl) (by kernel_rfl) (by kernel_rfl) (fun _ _ _ h => h) (Or.inl ⟨by kernel_rfl, ?yjna4⟩) (by assumption) ?rjna4
        case yjna4 =>
          intro w hSw
          try dsimp only at hSw
          obtain ⟨c0, c1, c2, c3, c4, c5, c6, c7, c8, c9, c10, c11⟩ := cells12 hSw
          first | (go_simp; done) | (go_simp; with_reducible rfl)
        try simp only [Act.put, List.setIfInBounds_toArray, List.set_cons_zero, List.set_cons_succ]
        refine wpAnyH_take (i := 5) (oi := ⟨some 50, _, _, _, _, _⟩) (v := ?vjna5) rfl (by kernel_rfl) (by kernel_rfl) (by kernel_rfl) (fun _ _ _ h => h) (Or.inl ⟨by kernel_rfl, ?yjna5⟩) (by assumption) ?rjna5
        case yjna5 =>
          intro w hSw
          try dsimp only at hSw
          obtain ⟨c0, c1, c2, c3, c4, c5, c6, c7, c8, c9, c10, c11⟩ := cells12 hSw
          first | (go_simp; done) | (go_simp; with_reducible rfl)
        try simp only [Act.put, List.setIfInBounds_toArray, List.set_cons_zero, List.set_cons_succ]
        refine wpAnyH_ready (rs := [2]) (by kernel_rfl) (by simp) ?_
        refine AllReadyH.cons (i := 2) (o := ⟨some 47, _, _, _, _, _⟩) rfl (fun K hK => ?_) AllReadyH.nil
        go_simp
        have HT3 := Lib.hid ((HT2.out.below (Below.refl _ _).drew).below (alloc_below w2.drew (.cells #[.int .i64 k1, .string x1, .string y1, .string z1, .int .i64 k2, .string x2, .string y2, .string z2, .int .i64 k3, .string x3, .string y3, .string z3] 47)))
        have x5 : RTriRow (w2.drew.alloc (.cells #[.int .i64 k1, .string x1, .string y1, .string z1, .int .i64 k2, .string x2, .string y2, .string z2, .int .i64 k3, .string x3, .string y3, .string z3] 47)) w2.drew.heap.size (.slice (some ⟨w2.drew.heap.size, 0, none⟩) 1 1) [t] := by have := RowOf.new (T := 47) rtriC_len w2.drew [t] (by simp); rw [show [t].flatMap rtriC = [.int .i64 k1, .string x1, .string y1, .string z1, .int .i64 k2, .string x2, .string y2, .string z2, .int .i64 k3, .string x3, .string y3, .string z3] from by rw [List.flatMap_singleton, HRC.out]] at this; exact this
        refine hK.out _ _ ?_ (fun hHeld => ?_)
        · exact boxb (by assumption) (alloc_below _ _)
        clear hK K
        try simp only [Act.put, List.setIfInBounds_toArray, List.set_cons_zero, List.set_cons_succ]
        refine wpAnyH_ready (rs := [3]) (by kernel_rfl) (by simp) ?_
        refine AllReadyH.cons (i := 3) (o := ⟨some 48, _, _, _, _, _⟩) rfl (fun K hK => ?_) AllReadyH.nil
        refine step_append_rows eltRTri _ (by rfl) (.tmp 45) (.tmp 47) (by rfl) w0.heap.size w2.drew.heap.size _ _ _ [t] (by rfl) (by rfl) HT3.out.2.1 x5 (by simp; have := HGL.out; have := HGL.out; omega) HT3.out.1.size ?_
        intro V4 w4 r4 q4 at4
        have HT4 := Lib.hid (HT3.out.growV r4 q4 at4)
        refine hK.out _ _ ?_ (fun hHeld => ?_)
        · exact (q4.block _ (lt_heap (by assumption)) (fun e => absurd (HOWN.out _ e.symm) (Nat.lt_irrefl _))).trans (by assumption)
        clear hK K
        try simp only [Act.put, List.setIfInBounds_toArray, List.set_cons_zero, List.set_cons_succ]
        refine wpAnyH_ready (rs := [6]) (by kernel_rfl) (by simp) ?_
        refine AllReadyH.cons (i := 6) (o := ⟨some 51, _, _, _, _, _⟩) rfl (fun K hK => ?_) AllReadyH.nil
        go_simp
        refine (HRL.out _).mono ?_
        rintro e w5 ⟨rfl, hb5⟩
        have HT5 := Lib.hid (HT4.out.below hb5)
        go_wp2_with fail
        refine hK.out _ _ ?_ (fun hHeld => ?_)
        · exact boxb (by assumption) hb5
        clear hK K
        try simp only [Act.put, List.setIfInBounds_toArray, List.set_cons_zero, List.set_cons_succ]
        refine wpAnyH_ready (rs := [7]) (by kernel_rfl) (by simp) ?_
        refine AllReadyH.cons (i := 7) (o := ⟨some 52, _, _, _, _, _⟩) rfl (fun K hK => ?_) AllReadyH.nil
        go_simp
        have HT6 := Lib.hid (HT5.out.below (alloc_below w5 (.cells #[.iface T1 Y1, .iface T2 Y2, .iface T3 Y3] 62)))
        have x6 : TriRow (w5.alloc (.cells #[.iface T1 Y1, .iface T2 Y2, .iface T3 Y3] 62)) w5.heap.size (.slice (some ⟨w5.heap.size, 0, none⟩) 1 1) [t] := by have := RowOf.new (T := 62) triC_len w5 [t] (by simp); rw [show [t].flatMap triC = [.iface T1 Y1, .iface T2 Y2, .iface T3 Y3] from by rw [List.flatMap_singleton, HTC.out]] at this; exact this
        refine hK.out _ _ ?_ (fun hHeld => ?_)
        · exact boxb (by assumption) (alloc_below _ _)
        clear hK K
        try simp only [Act.put, List.setIfInBounds_toArray, List.set_cons_zero, List.set_cons_succ]
        refine wpAnyH_ready (rs := [8]) (by kernel_rfl) (by simp) ?_
        refine AllReadyH.cons (i := 8) (o := ⟨some 53, _, _, _, _, _⟩) rfl (fun K hK => ?_) AllReadyH.nil
        refine step_append_rows eltTri _ (by rfl) (.tmp 49) (.tmp 52) (by rfl) w0.heap.size w5.heap.size _ _ _ [t] (by rfl) (by rfl) HT6.out.2.2.1 x6 (by simp; have := HGL.out; omega) HT6.out.1.size ?_
        intro V7 w7 r7 q7 at7
        have HT7 := Lib.hid (HT6.out.growU r7 q7 at7)
        refine hK.out _ _ ?_ (fun hHeld => ?_)
        · exact (q7.block _ (lt_heap (by assumption)) (fun e => absurd (HOWNU.out _ e.symm) (Nat.lt_irrefl _))).trans (by assumption)
        clear hK K
        try simp only [Act.put, List.setIfInBounds_toArray, List.set_cons_zero, List.set_cons_succ]
        refine wpAnyH_take (i := 9) (oi := ⟨some 9, _, _, _, _, _⟩) (v := ?vjna9) rfl (by kernel_rfl) (by kernel_rfl) (by kernel_rfl) (fun _ _ _ h => h) (Or.inl ⟨by kernel_rfl, ?yjna9⟩) (by assumption) ?rjna9
        case yjna9 =>
          intro w hSw
          try dsimp only at hSw
          obtain ⟨c0, c1, c2, c3, c4, c5, c6, c7, c8, c9, c10, c11⟩ := cells12 hSw
          first | (go_simp; done) | (go_simp; with_reducible rfl)
        try simp only [Act.put, List.setIfInBounds_toArray, List.set_cons_zero, List.set_cons_succ]
        refine wpAnyH_take (i := 10) (oi := ⟨some 10, _, _, _, _, _⟩) (v := ?vjna10) rfl (by kernel_rfl) (by kernel_rfl) (by kernel_rfl) (fun _ _ _ h => h) (Or.inl ⟨by kernel_rfl, ?yjna10⟩) (by assumption) ?rjna10
        case yjna10 =>
          intro w hSw
          try dsimp only at hSw
          obtain ⟨c0, c1, c2, c3, c4, c5, c6, c7, c8, c9, c10, c11⟩ := cells12 hSw
          first | (go_simp; done) | (go_simp; with_reducible rfl)
        try simp only [Act.put, List.setIfInBounds_toArray, List.set_cons_zero, List.set_cons_succ]
        refine wpAnyH_done (by kernel_rfl) ?_ _
        go_wp2_with fail
        go_round
        case measure => simp only [intOf]; omega
        case rel => exact ⟨k + 1, by omega, by push_cast; rfl, by rw [HYES.out (by trivial)]; exact HT7⟩
    · have t1 : decide ((k : Int) < (ts1.length : Int)) = false := decide_eq_false (by omega)
      have HTF := Lib.hid (show T3 w0 u9 (goods G ts1) u10 (goods G ts1) (.slice none 0 0) [] wo from by have := HT.out; rw [List.take_of_length_le (show ts1.length ≤ k by omega)] at this; exact this)
      clear HT HOWN HOWNU
      have HGL1 := Lib.hid (goods_len G ts1)
      clear HR5 HKEY1 HSM1
      go_wp2_with fail
      go_loopw [9, 11, 57] (fun V S i wr => ∃ k : Nat, k ≤ ts2.length ∧ i = .int .i64 k ∧ Hid (T3 w0 V (goods G ts1 ++ goods G (ts2.take k)) u10 (goods G ts1) S (goods G (ts2.take k)) wr)) (fun _ _ i _ => ts2.length - (intOf i).toNat)
      case atStart => exact ⟨0, by omega, rfl, by have h0 : goods G (ts2.take 0) = [] := rfl; rw [h0, List.append_nil]; exact HTF⟩
      case round =>
        clear HTF
        obtain ⟨k, hk, rfl, HT⟩ := hrel
        have HOWN := Lib.hid (fun q e => (HT.out.2.1.own_lt q e).2)
        have HOWNU := Lib.hid (fun q e => (HT.out.2.2.2.1.own_lt q e).2)
        obtain ⟨wo, hwo⟩ : ∃ wo : World, wo = wr := ⟨_, rfl⟩
        subst hwo
        by_cases hlt : k < ts2.length
        · obtain ⟨gb, gc, hv, hgb, r0, r1, r2, r3, r4, r5, r6, r7, r8, r9, r10, r11⟩ := rtri_at (HR7.out.below HT.out.1) k hlt
          obtain rfl : a7 = some ⟨gb, 0, none⟩ := by injection hv
          have HKT := Lib.hid (HKEY2.out k hlt)
          have HGD := Lib.hid (fun w => rgood3_any HGF.out (ts2[k]'hlt) (HSM2.out k hlt) w)
          have HRL := Lib.hid (fun w => real3_any (ts2[k]'hlt) HKT.out w)
          have HYES := Lib.hid (fun h => goods_yes (G := G) (ts := ts2) (k := k) hlt h)
          have HNO := Lib.hid (fun h => goods_no (G := G) (ts := ts2) (k := k) hlt h)
          have HGL := Lib.hid (goods_len G (ts2.take k))
          have HSUM : Hid ((goods G ts1).length ≤ 10) := Lib.hid (by have := HGL1.out; have := HLEN1.out; omega)
          have htl : (ts2.take k).length ≤ 10 := by rw [List.length_take]; have := HLEN2.out; omega
          obtain ⟨t, ht⟩ : ∃ t, t = ts2[k]'hlt := ⟨_, rfl⟩
          rw [← ht] at r0 r1 r2 r3 r4 r5 r6 r7 r8 r9 r10 r11 HKT HGD HRL HYES HNO
          obtain ⟨gx, hgx⟩ : ∃ gx, gx = goodTri G t := ⟨_, rfl⟩
          rw [← hgx] at HGD HYES HNO
          unfold rtriV at HGD HRL
          obtain ⟨k1, hk1⟩ : ∃ x, x = kindV t.s := ⟨_, rfl⟩
          obtain ⟨x1, hx1⟩ : ∃ x, x = text0 t.s := ⟨_, rfl⟩
          obtain ⟨y1, hy1⟩ : ∃ x, x = text1 t.s := ⟨_, rfl⟩
          obtain ⟨z1, hz1⟩ : ∃ x, x = text2 t.s := ⟨_, rfl⟩
          obtain ⟨k2, hk2⟩ : ∃ x, x = kindV t.p := ⟨_, rfl⟩
          obtain ⟨x2, hx2⟩ : ∃ x, x = text0 t.p := ⟨_, rfl⟩
          obtain ⟨y2, hy2⟩ : ∃ x, x = text1 t.p := ⟨_, rfl⟩
          obtain ⟨z2, hz2⟩ : ∃ x, x = text2 t.p := ⟨_, rfl⟩
          obtain ⟨k3, hk3⟩ : ∃ x, x = kindV t.o := ⟨_, rfl⟩
          obtain ⟨x3, hx3⟩ : ∃ x, x = text0 t.o := ⟨_, rfl⟩
          obtain ⟨y3, hy3⟩ : ∃ x, x = text1 t.o := ⟨_, rfl⟩
          obtain ⟨z3, hz3⟩ : ∃ x, x = text2 t.o := ⟨_, rfl⟩
          have HRC : Hid (rtriC t = [.int .i64 k1, .string x1, .string y1, .string z1, .int .i64 k2, .string x2, .string y2, .string z2, .int .i64 k3, .string x3, .string y3, .string z3]) := Lib.hid (by rw [hk1, hx1, hy1, hz1, hk2, hx2, hy2, hz2, hk3, hx3, hy3, hz3]; rfl)
          rw [← hk1, ← hx1, ← hy1, ← hz1, ← hk2, ← hx2, ← hy2, ← hz2, ← hk3, ← hx3, ← hy3, ← hz3] at HGD HRL
          rw [← hk1] at r0
          rw [← hx1] at r1
          rw [← hy1] at r2
          rw [← hz1] at r3
          rw [← hk2] at r4
          rw [← hx2] at r5
          rw [← hy2] at r6
          rw [← hz2] at r7
          rw [← hk3] at r8
          rw [← hx3] at r9
          rw [← hy3] at r10
          rw [← hz3] at r11
          clear hk1 hx1 hy1 hz1 hk2 hx2 hy2 hz2 hk3 hx3 hy3 hz3
          have b1 : (0 : Int) ≤ (k : Int) := by omega
          have b2 : (k : Int) < (ts2.length : Int) := by omega
          obtain ⟨W1, hW1⟩ : ∃ W1, W1 = wo.alloc (.cells #[.int .i64 k1, .string x1, .string y1, .string z1, .int .i64 k2, .string x2, .string y2, .string z2, .int .i64 k3, .string x3, .string y3, .string z3] 47) := ⟨_, rfl⟩
          have HX1 : Hid (W1.heap[wo.heap.size]? = some (.cells #[.int .i64 k1, .string x1, .string y1, .string z1, .int .i64 k2, .string x2, .string y2, .string z2, .int .i64 k3, .string x3, .string y3, .string z3] 47 (0, 0))) := Lib.hid (by rw [hW1]; exact blk_new wo _ _)
          have HT1 := Lib.hid (show _ from HT.out.below (show Below wo.heap.size wo W1 from by rw [hW1]; exact alloc_below wo _))
          have HW1 := Lib.hid hW1
          obtain ⟨d0, d1, d2, d3, d4, d5, d6, d7, d8, d9, d10, d11⟩ := cells12 HX1.out
          clear hv hgb hW1 ht
          cases gx with
          | false =>
            clear hgx
            go_wp2_with fail
            rw [← HW1.out]
            refine (HGD.out _).mono ?_
            rintro e w2 ⟨rfl, hb2⟩
            have HT2 := Lib.hid (HT1.out.below hb2)
            clear hb2
            go_wp2_with fail
            go_round
            case measure => simp only [intOf]; omega
            case rel => exact ⟨k + 1, by omega, by push_cast; rfl, by rw [HNO.out (by trivial)]; exact HT2⟩
          | true =>
            obtain ⟨T1, Y1, e1⟩ := key_iface HKT.out.1
            obtain ⟨T2, Y2, e2⟩ := key_iface HKT.out.2.1
            obtain ⟨T3, Y3, e3⟩ := key_iface HKT.out.2.2
            have HTC : Hid (triC t = [.iface T1 Y1, .iface T2 Y2, .iface T3 Y3]) := Lib.hid (by unfold triC; rw [e1, e2, e3])
            unfold triV at HRL
            rw [e1, e2, e3] at HRL
            clear e1 e2 e3 hgx
            go_wp2_with fail
            rw [← HW1.out]
            refine (HGD.out _).mono ?_
            rintro e w2 ⟨rfl, hb2⟩
            have HT2 := Lib.hid (HT1.out.below hb2)
            have HX2 := Lib.hid (boxb HX1.out hb2)
            have HB0 := Lib.hid (Nat.le_trans HT1.out.1.size hb2.size)
            obtain ⟨va, vc, hva⟩ := HT2.out.2.1.form
            obtain ⟨nv, hnv⟩ : ∃ n, n = List.length (goods G ts1 ++ goods G (ts2.take k)) := ⟨_, rfl⟩
            rw [← hnv] at hva
            subst hva
            obtain ⟨ua, uc, rfl⟩ := HT2.out.2.2.2.1.form
            clear hnv
            clear hb2 d0 d1 d2 d3 d4 d5 d6 d7 d8 d9 d10 d11
            go_wp2_with fail
            refine wp_region_held_drew (S := (fun w' => w'.heap[wo.heap.size]? = some (.cells #[.int .i64 k1, .string x1, .string y1, .string z1, .int .i64 k2, .string x2, .string y2, .string z2, .int .i64 k3, .string x3, .string y3, .string z3] 47 (0, 0)))) (by kernel_rfl) ?hSjnb0 (fun hHeld => ?_)
            case hSjnb0 => exact HX2.out
            refine wpAnyH_take (i := 0) (oi := ⟨some 63, _, _, _, _, _⟩) (v := ?vjnb0) rfl (by kernel_rfl) (by kernel_rfl) (by kernel_rfl) (fun _ _ _ h => h) (Or.inl ⟨by kernel_rfl, ?yjnb0⟩) (by assumption) ?rjnb0
            case yjnb0 =>
              intro w hSw
              try dsimp only at hSw
              obtain ⟨c0, c1, c2, c3, c4, c5, c6, c7, c8, c9, c10, c11⟩ := cells12 hSw
              first | (go_simp; done) | (go_simp; with_reducible rfl)
            try simp only [Act.put, List.setIfInBounds_toArray, List.set_cons_zero, List.set_cons_succ]
            refine wpAnyH_take (i := 1) (oi := ⟨some 64, _, _, _, _, _⟩) (v := ?vjnb1) rfl (by kernel_rfl) (by kernel_rfl) (by kernel_rfl) (fun _ _ _ h => h) (Or.inl ⟨by kernel_rfl, ?yjnb1⟩) (by assumption) ?rjnb1
            case yjnb1 =>
              intro w hSw
              try dsimp only at hSw
              obtain ⟨c0, c1, c2, c3, c4, c5, c6, c7, c8, c9, c10, c11⟩ := cells12 hSw
              first | (go_simp; done) | (go_simp; with_reducible rfl)
            try simp only [Act.put, List.setIfInBounds_toArray, List.set_cons_zero, List.set_cons_succ]
            refine wpAnyH_take (i := 4) (oi := ⟨some 67, _, _, _, _, _⟩) (v := ?vjnb4) rfl (by kernel_rfl) (by kernel_rfl) (by kernel_rfl) (fun _ _ _ h => h) (Or.inl ⟨by kernel_rfl, ?yjnb4⟩) (by assumption) ?rjnb4
            case yjnb4 =>
              intro w hSw
              try dsimp only at hSw
              obtain ⟨c0, c1, c2, c3, c4, c5, c6, c7, c8, c9, c10, c11⟩ := cells12 hSw
              first | (go_simp; done) | (go_simp; with_reducible rfl)
            try simp only [Act.put, List.setIfInBounds_toArray, List.set_cons_zero, List.set_cons_succ]
            refine wpAnyH_take (i := 5) (oi := ⟨some 68, _, _, _, _, _⟩) (v := ?vjnb5) rfl (by kernel_rfl) (by kernel_rfl) (by kernel_rfl) (fun _ _ _ h => h) (Or.inl ⟨by kernel_rfl, ?yjnb5⟩) (by assumption) ?rjnb5
            case yjnb5 =>
              intro w hSw
              try dsimp only at hSw
              obtain ⟨c0, c1, c2, c3, c4, c5, c6, c7, c8, c9, c10, c11⟩ := cells12 hSw
              first | (go_simp; done) | (go_simp; with_reducible rfl)
            try simp only [Act.put, List.setIfInBounds_toArray, List.set_cons_zero, List.set_cons_succ]
            refine wpAnyH_ready (rs := [2]) (by kernel_rfl) (by simp) ?_
            refine AllReadyH.cons (i := 2) (o := ⟨some 65, _, _, _, _, _⟩) rfl (fun K hK => ?_) AllReadyH.nil
            go_simp
            have HT3 := Lib.hid ((HT2.out.below (Below.refl _ _).drew).below (alloc_below w2.drew (.cells #[.int .i64 k1, .string x1, .string y1, .string z1, .int .i64 k2, .string x2, .string y2, .string z2, .int .i64 k3, .string x3, .string y3, .string z3] 47)))
            have x5 : RTriRow (w2.drew.alloc (.cells #[.int .i64 k1, .string x1, .string y1, .string z1, .int .i64 k2, .string x2, .string y2, .string z2, .int .i64 k3, .string x3, .string y3, .string z3] 47)) w2.drew.heap.size (.slice (some ⟨w2.drew.heap.size, 0, none⟩) 1 1) [t] := by have := RowOf.new (T := 47) rtriC_len w2.drew [t] (by simp); rw [show [t].flatMap rtriC = [.int .i64 k1, .string x1, .string y1, .string z1, .int .i64 k2, .string x2, .string y2, .string z2, .int .i64 k3, .string x3, .string y3, .string z3] from by rw [List.flatMap_singleton, HRC.out]] at this; exact this
            refine hK.out _ _ ?_ (fun hHeld => ?_)
            · exact boxb (by assumption) (alloc_below _ _)
            clear hK K
            try simp only [Act.put, List.setIfInBounds_toArray, List.set_cons_zero, List.set_cons_succ]
            refine wpAnyH_ready (rs := [3]) (by kernel_rfl) (by simp) ?_
            refine AllReadyH.cons (i := 3) (o := ⟨some 66, _, _, _, _, _⟩) rfl (fun K hK => ?_) AllReadyH.nil
            refine step_append_rows eltRTri _ (by rfl) (.tmp 63) (.tmp 65) (by rfl) w0.heap.size w2.drew.heap.size _ _ _ [t] (by rfl) (by rfl) HT3.out.2.1 x5 (by simp; have := HGL.out; have := HSUM.out; omega) HT3.out.1.size ?_
            intro V4 w4 r4 q4 at4
            have HT4 := Lib.hid (HT3.out.growV r4 q4 at4)
            refine hK.out _ _ ?_ (fun hHeld => ?_)
            · exact (q4.block _ (lt_heap (by assumption)) (fun e => absurd (HOWN.out _ e.symm) (Nat.lt_irrefl _))).trans (by assumption)
            clear hK K
            try simp only [Act.put, List.setIfInBounds_toArray, List.set_cons_zero, List.set_cons_succ]
            refine wpAnyH_ready (rs := [6]) (by kernel_rfl) (by simp) ?_
            refine AllReadyH.cons (i := 6) (o := ⟨some 69, _, _, _, _, _⟩) rfl (fun K hK => ?_) AllReadyH.nil
            go_simp
            refine (HRL.out _).mono ?_
            rintro e w5 ⟨rfl, hb5⟩
            have HT5 := Lib.hid (HT4.out.below hb5)
            go_wp2_with fail
            refine hK.out _ _ ?_ (fun hHeld => ?_)
            · exact boxb (by assumption) hb5
            clear hK K
            try simp only [Act.put, List.setIfInBounds_toArray, List.set_cons_zero, List.set_cons_succ]
            refine wpAnyH_ready (rs := [7]) (by kernel_rfl) (by simp) ?_
            refine AllReadyH.cons (i := 7) (o := ⟨some 70, _, _, _, _, _⟩) rfl (fun K hK => ?_) AllReadyH.nil
            go_simp
            have HT6 := Lib.hid (HT5.out.below (alloc_below w5 (.cells #[.iface T1 Y1, .iface T2 Y2, .iface T3 Y3] 62)))
            have x6 : TriRow (w5.alloc (.cells #[.iface T1 Y1, .iface T2 Y2, .iface T3 Y3] 62)) w5.heap.size (.slice (some ⟨w5.heap.size, 0, none⟩) 1 1) [t] := by have := RowOf.new (T := 62) triC_len w5 [t] (by simp); rw [show [t].flatMap triC = [.iface T1 Y1, .iface T2 Y2, .iface T3 Y3] from by rw [List.flatMap_singleton, HTC.out]] at this; exact this
            refine hK.out _ _ ?_ (fun hHeld => ?_)
            · exact boxb (by assumption) (alloc_below _ _)
            clear hK K
            try simp only [Act.put, List.setIfInBounds_toArray, List.set_cons_zero, List.set_cons_succ]
            refine wpAnyH_ready (rs := [8]) (by kernel_rfl) (by simp) ?_
            refine AllReadyH.cons (i := 8) (o := ⟨some 71, _, _, _, _, _⟩) rfl (fun K hK => ?_) AllReadyH.nil
            refine step_append_rows eltTri _ (by rfl) (.tmp 67) (.tmp 70) (by rfl) w0.heap.size w5.heap.size _ _ _ [t] (by rfl) (by rfl) HT6.out.2.2.2.1 x6 (by simp; have := HGL.out; omega) HT6.out.1.size ?_
            intro V7 w7 r7 q7 at7
            have HT7 := Lib.hid (HT6.out.growS r7 q7 at7)
            refine hK.out _ _ ?_ (fun hHeld => ?_)
            · exact (q7.block _ (lt_heap (by assumption)) (fun e => absurd (HOWNU.out _ e.symm) (Nat.lt_irrefl _))).trans (by assumption)
            clear hK K
            try simp only [Act.put, List.setIfInBounds_toArray, List.set_cons_zero, List.set_cons_succ]
            refine wpAnyH_take (i := 9) (oi := ⟨some 9, _, _, _, _, _⟩) (v := ?vjnb9) rfl (by kernel_rfl) (by kernel_rfl) (by kernel_rfl) (fun _ _ _ h => h) (Or.inl ⟨by kernel_rfl, ?yjnb9⟩) (by assumption) ?rjnb9
            case yjnb9 =>
              intro w hSw
              try dsimp only at hSw
              obtain ⟨c0, c1, c2, c3, c4, c5, c6, c7, c8, c9, c10, c11⟩ := cells12 hSw
              first | (go_simp; done) | (go_simp; with_reducible rfl)
            try simp only [Act.put, List.setIfInBounds_toArray, List.set_cons_zero, List.set_cons_succ]
            refine wpAnyH_take (i := 10) (oi := ⟨some 11, _, _, _, _, _⟩) (v := ?vjnb10) rfl (by kernel_rfl) (by kernel_rfl) (by kernel_rfl) (fun _ _ _ h => h) (Or.inl ⟨by kernel_rfl, ?yjnb10⟩) (by assumption) ?rjnb10
            case yjnb10 =>
              intro w hSw
              try dsimp only at hSw
              obtain ⟨c0, c1, c2, c3, c4, c5, c6, c7, c8, c9, c10, c11⟩ := cells12 hSw
              first | (go_simp; done) | (go_simp; with_reducible rfl)
            try simp only [Act.put, List.setIfInBounds_toArray, List.set_cons_zero, List.set_cons_succ]
            refine wpAnyH_done (by kernel_rfl) ?_ _
            go_wp2_with fail
            go_round
            case measure => simp only [intOf]; omega
            case rel => exact ⟨k + 1, by omega, by push_cast; rfl, by rw [HYES.out (by trivial), ← List.append_assoc]; exact HT7⟩
        · have t1 : decide ((k : Int) < (ts2.length : Int)) = false := decide_eq_false (by omega)
          have HTF := Lib.hid (show T3 w0 u9 (goods G ts1 ++ goods G ts2) u10 (goods G ts1) u11 (goods G ts2) wo from by have := HT.out; rw [List.take_of_length_le (show ts2.length ≤ k by omega)] at this; exact this)
          clear HT HOWN HOWNU
          have HGL2 := Lib.hid (goods_len G ts2)
          have hcnt : (goods G ts1).length ≤ 10 ∧ (goods G ts2).length ≤ 10 := by have := HGL1.out; have := HGL2.out; have := HLEN1.out; have := HLEN2.out; omega
          have HGA : Hid (∀ t ∈ goods G ts1 ++ goods G ts2, GoodTri G t ∧ SmallTri t ∧ ShortTri t ∧ KeyTri t) := Lib.hid (fun t ht => by
            rcases List.mem_append.1 ht with h | h
            · exact HG1.out t h
            · exact HG2.out t h)
          have HP1 := Lib.hid (fun wx (hx : T3 w0 u9 (goods G ts1 ++ goods G ts2) u10 (goods G ts1) u11 (goods G ts2) wx) => print_any (G := G) wx hx.2.2.1 (fun t ht => ⟨(HG1.out t ht).1, (HG1.out t ht).2.1⟩) (by omega) (HEs.out.below HEs.out.lt (HB3.out.trans (hx.1.mono HB3.out.size))))
          have HP2 := Lib.hid (fun wx (hx : T3 w0 u9 (goods G ts1 ++ goods G ts2) u10 (goods G ts1) u11 (goods G ts2) wx) => print_any (G := G) wx hx.2.2.2.1 (fun t ht => ⟨(HG2.out t ht).1, (HG2.out t ht).2.1⟩) (by omega) (HEs.out.below HEs.out.lt (HB3.out.trans (hx.1.mono HB3.out.size))))
          have hla := lines_all (G := G) (goods G ts1 ++ goods G ts2) (fun t ht => ⟨(HGA.out t ht).1, (HGA.out t ht).2.2.1⟩)
          have hlen : (linesS (goods G ts1 ++ goods G ts2)).length ≤ 56340 := by have := hla.1; rw [List.length_append] at this; omega
          have hsz := tB_size (linesS (goods G ts1 ++ goods G ts2))
          have HPA := Lib.hid (fun wx (hx : Below w.heap.size w wx) => parse_any HGF.out (tBytes (linesS (goods G ts1 ++ goods G ts2))) (linesS (goods G ts1 ++ goods G ts2)) [] wx (read_tB hla.2) (by omega) (by omega) (HEs.out.below HEs.out.lt hx) (HMs.out.below hx))
          unfold ParseEnd parseS at HPA
          rw [if_pos rfl, parse_back _ (fun t ht => (HGA.out t ht).1)] at HPA
          dsimp only at HPA
          have hsum := tB_app (linesS (goods G ts1)) (linesS (goods G ts2))
          rw [← linesS_app] at hsum
          have hs1 := tB_size (linesS (goods G ts1))
          have hs2 := tB_size (linesS (goods G ts2))
          have hl1' : (linesS (goods G ts1)).length ≤ 56340 := by rw [linesS_app, List.length_append] at hlen; omega
          have hl2' : (linesS (goods G ts2)).length ≤ 56340 := by rw [linesS_app, List.length_append] at hlen; omega
          have g1 : ∀ w : World, (Op.stringOp .add (tBytes (linesS (goods G ts1))) (tBytes (linesS (goods G ts2)))).run Tryd.prog w = .ok (.string (tBytes (linesS (goods G ts1)) ++ tBytes (linesS (goods G ts2)))) w := add_str _ _ (by omega)
          rw [hsum] at g1
          obtain ⟨ua, uc, hu⟩ := HTF.out.2.2.1.form
          obtain ⟨va, vc, hv⟩ := HTF.out.2.1.form
          obtain ⟨sa, sc, hs⟩ := HTF.out.2.2.2.1.form
          have hall : (goods G ts1 ++ goods G ts2).length ≤ 100000 := by rw [List.length_append]; omega
          generalize tBytes (linesS (goods G ts1 ++ goods G ts2)) = Z at *
          generalize tBytes (linesS (goods G ts1)) = Z1 at *
          generalize tBytes (linesS (goods G ts2)) = Z2 at *
          clear hla hlen hsz hsum hs1 hs2 hl1' hl2' hu hv hs hcnt
          go_wp2_with fail
          refine (HP1.out _ HTF.out).mono ?_
          rintro e w4 ⟨rfl, hb4⟩
          have HT4 := Lib.hid (HTF.out.below hb4)
          clear hb4
          go_wp2_with fail
          refine (HP2.out _ HT4.out).mono ?_
          rintro e w5 ⟨rfl, hb5⟩
          have HT5 := Lib.hid (HT4.out.below hb5)
          have HB5 := Lib.hid (HB3.out.trans (HT5.out.1.mono HB3.out.size))
          clear hb5
          go_wp2_with fail
          refine (HPA.out _ HB5.out).mono ?_
          rintro e w6 ⟨V16, rfl, hr6, hb6⟩
          have HT6 := Lib.hid (HT5.out.below hb6)
          have HB6 := Lib.hid (HB5.out.trans (hb6.mono HB5.out.size))
          have HIS := Lib.hid (is4_any _ _ V16 u9 (goods G ts1 ++ goods G ts2) w6 hr6 HT6.out.2.1 (fun t ht => (HGA.out t ht).2.2.2) hall)
          clear hr6 hb6
          go_wp2_with fail
          refine HIS.out.mono ?_
          rintro e w7 ⟨rfl, hb7⟩
          go_wp2_with fail
          go_ret
          exact ⟨rfl, HB6.out.trans (hb7.mono HB6.out.size)⟩
end Go.Proofs.YtbchkhjkajagfaaDoor
