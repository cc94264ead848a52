/- DictKeys, walked. -/
import Derived.Test.YtghimladdioajaaKeys
import Derived.Test.YtghimladdioajaaTriFew
namespace Go.Proofs.Ytghimladdioajaa
open Go Go.RowKit
set_option linter.unusedVariables false
set_option linter.unusedSimpArgs false
set_option maxRecDepth 100000
/-- behind so many triples: the dictionary, the triples' row -/
def KLp (G : Tm → Bool) (w0 : World) (p m : Nat) (V : Value) (T : List Tri) (ts : List Tm) (wr : World) : Prop :=
  DcAt w0.heap.size p m ts 100 wr ∧ Dist ts ∧ Fine G ts ∧ RTriRow wr w0.heap.size V T ∧ Below w0.heap.size w0 wr
section
variable {G : Tm → Bool} {w0 wr wr' : World} {p m : Nat} {V : Value} {T : List Tri} {ts ts' : List Tm}
theorem KLp.below (h : KLp G w0 p m V T ts wr) (hb : Below wr.heap.size wr wr') : KLp G w0 p m V T ts wr' :=
  ⟨h.1.keep hb, h.2.1, h.2.2.1, h.2.2.2.1.below hb, h.2.2.2.2.trans (hb.mono h.2.2.2.2.size)⟩
theorem KLp.alloc (h : KLp G w0 p m V T ts wr) (o : Obj) : KLp G w0 p m V T ts (wr.alloc o) := h.below ((Below.refl _ _).alloc (Nat.le_refl _) o)
theorem KLp.put (h : KLp G w0 p m V T ts wr) (hd : DcAt w0.heap.size p m ts' 100 wr') (hk : DK w0.heap.size p m wr wr') (hdist : Dist ts') (hf : Fine G ts') : KLp G w0 p m V T ts' wr' :=
  ⟨hd, hdist, hf, h.1.row hk h.2.2.2.1 (by decide) (by decide), h.2.2.2.2.trans hk.1⟩
theorem KLp.bel (h : KLp G w0 p m V T ts wr) : Below w0.heap.size w0 wr := h.2.2.2.2
end
set_option maxHeartbeats 6400000 in
theorem keys_any (a : Option Addr) (rs : List Raw3) (cap : Nat) (w : World) (hm : MaxV w) (h : Raw3sAt w a rs) (hl : rs.length ≤ 9223372036854775807) :
    Calls Try.prog 5 #[.slice a rs.length cap] w fun e w' => e = .returned (.bool true) ∧ Below w.heap.size w w' := by
  obtain ⟨G, hG⟩ := good_fn
  have HA := Lib.hid (awake5_any w hm)
  have HFW := Lib.hid (fun w1 (hb : Below w.heap.size w w1) => few_any a rs cap w1 (h.below hb) hl)
  have HM := Lib.hid hm
  have HG := Lib.hid hG
  clear hm h hG
  go_enter Try.func5, Try.ntmps5
  go_wp2_with fail
  refine HA.out.mono ?_
  rintro e w1 ⟨rfl, hb1⟩
  go_wp2_with fail
  refine (HFW.out _ hb1).mono ?_
  rintro e w2 ⟨V, rfl, hb2, hrow⟩
  have HRW := Lib.hid hrow
  have HB2 := Lib.hid (hb1.trans (hb2.mono hb1.size))
  have HB1 := Lib.hid hb1
  clear hrow hb1 hb2
  cases hfb : fewB rs with
  | false =>
    clear hfb
    go_wp2_with fail
    go_ret
    exact ⟨rfl, HB2.out⟩
  | true =>
    have HROW := Lib.hid ((HRW.out hfb).base HB1.out.size)
    have HFT := Lib.hid (⟨fewT_key rs, fewT_small hfb⟩ : _ ∧ _)
    have hlen := fewT_len rs
    obtain ⟨T, hT⟩ : ∃ T, T = fewT rs := ⟨_, rfl⟩
    rw [← hT] at HROW HFT hlen
    clear hT hfb
    obtain ⟨va, vc, rfl⟩ := HROW.out.form
    go_wp2_with fail
    refine (new_yes 100 w2 (by omega) w.heap.size HB2.out.size).mono ?_
    rintro e w3 ⟨p, m, rfl, hd3, hb3, hp3, hm3⟩
    have HS3 : Hid (KLp G w p m (.slice va T.length vc) T [] w3) := Lib.hid ⟨hd3, fun i j hj => by simp at hj, fun x hx => by simp at hx, HROW.out.below hb3, HB2.out.trans (hb3.mono HB2.out.size)⟩
    clear hd3 hb3 hp3 hm3
    go_wp2_with fail
    go_loopw [33] (fun i wr => ∃ j : Nat, j ≤ T.length ∧ i = .int .i64 j ∧ Hid (∃ ts, ts.length ≤ 3 * j ∧ KLp G w p m (.slice va T.length vc) T ts wr)) (fun i _ => T.length - (intOf i).toNat)
    case atStart => exact ⟨0, by omega, rfl, Lib.hid ⟨[], by simp, HS3.out⟩⟩
    case round =>
      obtain ⟨j, hj, rfl, hc⟩ := hrel
      by_cases hlt : j < T.length
      · obtain ⟨ts, hts, hS⟩ := hc.out
        obtain ⟨g, c1, hv, hg, r0, r1, r2, r3, r4, r5, r6, r7, r8, r9, r10, r11⟩ := rtri_at hS.2.2.2.1 j hlt
        obtain rfl : va = some ⟨g, 0, none⟩ := by injection hv
        obtain ⟨t, ht⟩ : ∃ t, t = T[j]'hlt := ⟨_, rfl⟩
        have hkt : KeyTri t := by rw [ht]; exact HFT.out.1 _ (List.getElem_mem hlt)
        have hzt : SmallTri t := by rw [ht]; exact HFT.out.2 _ (List.getElem_mem hlt)
        rw [← ht] at r0 r1 r2 r3 r4 r5 r6 r7 r8 r9 r10 r11
        have HGD := Lib.hid (fun w => rgood3_any HG.out t hzt w)
        have HRE3 := Lib.hid (fun w => real3_any t hkt w)
        have HRE := Lib.hid (fun w => real_any t.s hkt.1 w)
        unfold rtriV at HGD HRE3
        unfold refT at HRE
        unfold triV at HRE3
        have b1 : (0 : Int) ≤ (j : Int) := by omega
        have b2 : (j : Int) < (T.length : Int) := by omega
        obtain ⟨W1, hW1⟩ : ∃ W1, W1 = wr.alloc (.cells #[.int .i64 (kindV t.s), .string (text0 t.s), .string (text1 t.s), .string (text2 t.s), .int .i64 (kindV t.p), .string (text0 t.p), .string (text1 t.p), .string (text2 t.p), .int .i64 (kindV t.o), .string (text0 t.o), .string (text1 t.o), .string (text2 t.o)] 51) := ⟨_, rfl⟩
        have hbw : Below wr.heap.size wr W1 := by rw [hW1]; exact (Below.refl _ _).alloc (Nat.le_refl _) _
        have hbx : W1.heap[wr.heap.size]? = some (.cells #[.int .i64 (kindV t.s), .string (text0 t.s), .string (text1 t.s), .string (text2 t.s), .int .i64 (kindV t.p), .string (text0 t.p), .string (text1 t.p), .string (text2 t.p), .int .i64 (kindV t.o), .string (text0 t.o), .string (text1 t.o), .string (text2 t.o)] 51 (0, 0)) := by rw [hW1]; exact box_new wr _ _
        have HS1 := Lib.hid (hS.below hbw)
        have HX1 := Lib.hid hbx
        have HTS := Lib.hid hts
        have HW1 := Lib.hid hW1
        have HT := Lib.hid (⟨hkt, hzt⟩ : _ ∧ _)
        clear hbw hbx hW1 hS hts hv hkt hzt ht hc hg
        cases hgd : goodTri G t with
        | false =>
          rw [hgd] at HGD
          clear hgd HRE3 HRE
          go_wp2_with fail
          rw [← HW1.out]
          refine (HGD.out _).mono ?_
          rintro e w4 ⟨rfl, hb4⟩
          have HS4 := Lib.hid (HS1.out.below hb4)
          clear hb4 r0 r1 r2 r3 r4 r5 r6 r7 r8 r9 r10 r11
          go_wp2_with fail
          exact ⟨⟨j + 1, by omega, by push_cast; rfl, Lib.hid ⟨ts, by have := HTS.out; omega, HS4.out⟩⟩, by simp only [intOf]; omega⟩
        | true =>
          rw [hgd] at HGD
          have hkf := key_full (room := 100) (ts := ts) HT.out.1 hgd (by have := HTS.out; omega)
          obtain ⟨T', j0, j1, j2, hk1, i0, i1, i2, hl1, hk2⟩ := hkf
          have hf1 : Fine G ts → Fine G T' := fun hf => by
            have := fine_key (room := 100) hf HT.out.1 HT.out.2
            rw [hk1] at this
            exact this
          have HKA := Lib.hid (fun w1 (h1 : KLp G w p m (.slice (some ⟨g, 0, none⟩) T.length vc) T ts w1) => key_any HG.out (room := 100) t HT.out.1 HT.out.2 HM.out h1.2.2.2.2 h1.1 h1.2.1 (by omega))
          have HKB := Lib.hid (fun w1 (h1 : KLp G w p m (.slice (some ⟨g, 0, none⟩) T.length vc) T T' w1) => key_any HG.out (room := 100) t HT.out.1 HT.out.2 HM.out h1.2.2.2.2 h1.1 h1.2.1 (by omega))
          have HTR := Lib.hid (fun w1 (h1 : KLp G w p m (.slice (some ⟨g, 0, none⟩) T.length vc) T T' w1) => trip_any HG.out (j0 : Int) j1 j2 (HM.out.below h1.2.2.2.2) h1.1 h1.2.2.1)
          have HFI := Lib.hid (fun w1 (h1 : KLp G w p m (.slice (some ⟨g, 0, none⟩) T.length vc) T T' w1) => find_good t.s HT.out.1.1 h1.1 (by have := (HG.out t.s HT.out.2.1).1 w1 (HM.out.below h1.2.2.2.2); rw [(goodTri_all hgd).1] at this; exact this))
          unfold KeyEnd at HKA HKB
          rw [hk1] at HKA
          rw [hk2] at HKB
          rw [trip_there hgd i0 i1 i2] at HTR
          unfold findV at HFI
          rw [i0] at HFI
          unfold triV at HKA HKB HTR
          have HIS := Lib.hid (fun w1 V1 V2 b1 b2 (h1 : TriRow w1 b1 V1 [t]) (h2 : RTriRow w1 b2 V2 [t]) => is4_any b1 b2 V1 V2 [t] w1 h1 h2 (fun x hx => by rw [List.mem_singleton] at hx; rw [hx]; exact HT.out.1) (by simp))
          have HN1 : Hid (∀ w1 : World, TriRow (w1.alloc (.cells #[tmV t.s, tmV t.p, tmV t.o] 58)) w1.heap.size (.slice (some ⟨w1.heap.size, 0, none⟩) 1 1) [t]) := Lib.hid (fun w1 => RowOf.new triC_len w1 [t] (by simp))
          have HN2 : Hid (∀ w1 : World, RTriRow (w1.alloc (.cells #[.int .i64 (kindV t.s), .string (text0 t.s), .string (text1 t.s), .string (text2 t.s), .int .i64 (kindV t.p), .string (text0 t.p), .string (text1 t.p), .string (text2 t.p), .int .i64 (kindV t.o), .string (text0 t.o), .string (text1 t.o), .string (text2 t.o)] 51)) w1.heap.size (.slice (some ⟨w1.heap.size, 0, none⟩) 1 1) [t]) := Lib.hid (fun w1 => RowOf.new rtriC_len w1 [t] (by simp))
          have HL := Lib.hid (⟨hl1, hf1⟩ : _ ∧ _)
          dsimp only at HKA HKB HTR HFI
          clear hgd hk1 hk2 i0 i1 i2 hl1 hf1
          have hia := key_iface HT.out.1.1
          have hib := key_iface HT.out.1.2.1
          have hic := key_iface HT.out.1.2.2
          generalize tmV t.s = xa at *
          generalize tmV t.p = xb at *
          generalize tmV t.o = xc at *
          obtain ⟨Ta, Ya, rfl⟩ := hia
          obtain ⟨Tb, Yb, rfl⟩ := hib
          obtain ⟨Tc, Yc, rfl⟩ := hic
          generalize kindV t.s = k1 at *
          generalize text0 t.s = s1 at *
          generalize text1 t.s = t1 at *
          generalize text2 t.s = l1 at *
          generalize kindV t.p = k2 at *
          generalize text0 t.p = s2 at *
          generalize text1 t.p = t2 at *
          generalize text2 t.p = l2 at *
          generalize kindV t.o = k3 at *
          generalize text0 t.o = s3 at *
          generalize text1 t.o = t3 at *
          generalize text2 t.o = l3 at *
          go_wp2_with fail
          rw [← HW1.out]
          refine (HGD.out _).mono ?_
          rintro e w4 ⟨rfl, hb4⟩
          have HS4 := Lib.hid (HS1.out.below hb4)
          have HX4 := Lib.hid (box_below HX1.out hb4)
          clear hb4 r0 r1 r2 r3 r4 r5 r6 r7 r8 r9 r10 r11
          obtain ⟨y0, y1, y2, y3, y4, y5, y6, y7, y8, y9, y10, y11⟩ := cells12 HX4.out
          go_wp2_with fail
          refine (HRE3.out _).mono ?_
          rintro e w5 ⟨rfl, hb5⟩
          have HS5 := Lib.hid (HS4.out.below hb5)
          have HX5 := Lib.hid (box_below HX4.out hb5)
          clear hb5 y0 y1 y2 y3 y4 y5 y6 y7 y8 y9 y10 y11
          go_wp2_with fail
          refine (HKA.out _ HS5.out).mono ?_
          rintro e w6 ⟨rfl, hd6, hk6, hdist6⟩
          have HS6 := Lib.hid ((HS5.out.put hd6 hk6 hdist6 (HL.out.2 HS5.out.2.2.1)).alloc (.cells #[.int .i64 j0, .int .i64 j1, .int .i64 j2] 54))
          have HX6 := Lib.hid (box_alloc (o' := .cells #[.int .i64 j0, .int .i64 j1, .int .i64 j2] 54) (HS5.out.1.box hk6 HX5.out (by decide) (by decide)))
          have HK6 := Lib.hid (box_new w6 #[.int .i64 j0, .int .i64 j1, .int .i64 j2] 54)
          clear hd6 hk6 hdist6
          obtain ⟨y0, y1, y2, y3, y4, y5, y6, y7, y8, y9, y10, y11⟩ := cells12 HX6.out
          go_wp2_with fail
          refine (len_any HS6.out.1).mono ?_
          rintro e w7 ⟨rfl, rfl⟩
          go_wp2_with fail
          refine (HRE3.out _).mono ?_
          rintro e w8 ⟨rfl, hb8⟩
          have HS8 := Lib.hid (HS6.out.below hb8)
          have HX8 := Lib.hid (box_below HX6.out hb8)
          have HK8 := Lib.hid (box_below HK6.out hb8)
          clear hb8 y0 y1 y2 y3 y4 y5 y6 y7 y8 y9 y10 y11
          go_wp2_with fail
          refine (HKB.out _ HS8.out).mono ?_
          rintro e w9 ⟨rfl, hd9, hk9, hdist9⟩
          have HS9 := Lib.hid ((HS8.out.put hd9 hk9 hdist9 HS8.out.2.2.1).alloc (.cells #[.int .i64 j0, .int .i64 j1, .int .i64 j2] 54))
          have HX9 := Lib.hid (box_alloc (o' := .cells #[.int .i64 j0, .int .i64 j1, .int .i64 j2] 54) (HS8.out.1.box hk9 HX8.out (by decide) (by decide)))
          have HK9 := Lib.hid (box_alloc (o' := .cells #[.int .i64 j0, .int .i64 j1, .int .i64 j2] 54) (HS8.out.1.box hk9 HK8.out (by decide) (by decide)))
          have HQ9 := Lib.hid (box_new w9 #[.int .i64 j0, .int .i64 j1, .int .i64 j2] 54)
          clear hd9 hk9 hdist9
          obtain ⟨z0, z1, z2, z3⟩ := cells3 HK9.out
          go_wp2_with fail
          refine (HTR.out _ HS9.out).mono ?_
          rintro e w10 ⟨rfl, hb10⟩
          have HS10 := Lib.hid ((HS9.out.below hb10).alloc (.cells #[.iface Ta Ya, .iface Tb Yb, .iface Tc Yc] 58))
          have HX10 := Lib.hid (box_alloc (o' := .cells #[.iface Ta Ya, .iface Tb Yb, .iface Tc Yc] 58) (box_below HX9.out hb10))
          have HK10 := Lib.hid (box_alloc (o' := .cells #[.iface Ta Ya, .iface Tb Yb, .iface Tc Yc] 58) (box_below HK9.out hb10))
          have HQ10 := Lib.hid (box_alloc (o' := .cells #[.iface Ta Ya, .iface Tb Yb, .iface Tc Yc] 58) (box_below HQ9.out hb10))
          have HT10 := Lib.hid (box_new w10 #[.iface Ta Ya, .iface Tb Yb, .iface Tc Yc] 58)
          clear hb10 z0 z1 z2 z3
          obtain ⟨y0, y1, y2, y3, y4, y5, y6, y7, y8, y9, y10, y11⟩ := cells12 HX10.out
          clear y4 y5 y6 y7 y8 y9 y10 y11
          go_wp2_with fail
          refine (HRE.out _).mono ?_
          rintro e w11 ⟨rfl, hb11⟩
          have HS11 := Lib.hid (HS10.out.below hb11)
          have HX11 := Lib.hid (box_below HX10.out hb11)
          have HK11 := Lib.hid (box_below HK10.out hb11)
          have HQ11 := Lib.hid (box_below HQ10.out hb11)
          have HT11 := Lib.hid (box_below HT10.out hb11)
          clear hb11 y0 y1 y2 y3
          go_wp2_with fail
          refine (HFI.out _ HS11.out).mono ?_
          rintro e w12 ⟨rfl, hb12⟩
          have HS12 := Lib.hid (HS11.out.below hb12)
          have HX12 := Lib.hid (box_below HX11.out hb12)
          have HK12 := Lib.hid (box_below HK11.out hb12)
          have HQ12 := Lib.hid (box_below HQ11.out hb12)
          have HT12 := Lib.hid (box_below HT11.out hb12)
          clear hb12
          obtain ⟨y0, y1, y2, y3, y4, y5, y6, y7, y8, y9, y10, y11⟩ := cells12 HX12.out
          obtain ⟨z0, z1, z2, z3⟩ := cells3 HK12.out
          obtain ⟨u0, u1, u2, u3⟩ := cells3 HQ12.out
          obtain ⟨v0, v1, v2, v3⟩ := cells3 HT12.out
          have QK := eq_key j0 j1 j2
          go_wp2_with fail
          refine (len_any HS12.out.1).mono ?_
          rintro e w13 ⟨rfl, rfl⟩
          have hl12 := lt_heap HX12.out
          have HR13 : Hid (TriRow ((w12.alloc (.cells #[.iface Ta Ya, .iface Tb Yb, .iface Tc Yc] 58)).alloc (.cells #[.int .i64 k1, .string s1, .string t1, .string l1, .int .i64 k2, .string s2, .string t2, .string l2, .int .i64 k3, .string s3, .string t3, .string l3] 51)) w12.heap.size (.slice (some ⟨w12.heap.size, 0, none⟩) 1 1) [t]) := Lib.hid ((HN1.out w12).below ((Below.refl _ _).alloc (Nat.le_refl _) _))
          have HR14 : Hid (RTriRow ((w12.alloc (.cells #[.iface Ta Ya, .iface Tb Yb, .iface Tc Yc] 58)).alloc (.cells #[.int .i64 k1, .string s1, .string t1, .string l1, .int .i64 k2, .string s2, .string t2, .string l2, .int .i64 k3, .string s3, .string t3, .string l3] 51)) (w12.heap.size + 1) (.slice (some ⟨w12.heap.size + 1, 0, none⟩) 1 1) [t]) := Lib.hid (by
            have h := HN2.out (w12.alloc (.cells #[.iface Ta Ya, .iface Tb Yb, .iface Tc Yc] 58))
            rwa [show (w12.alloc (.cells #[.iface Ta Ya, .iface Tb Yb, .iface Tc Yc] 58)).heap.size = w12.heap.size + 1 from by simp] at h)
          have HS14 := Lib.hid ((HS12.out.alloc (.cells #[.iface Ta Ya, .iface Tb Yb, .iface Tc Yc] 58)).alloc (.cells #[.int .i64 k1, .string s1, .string t1, .string l1, .int .i64 k2, .string s2, .string t2, .string l2, .int .i64 k3, .string s3, .string t3, .string l3] 51))
          go_wp2_with fail
          refine (HIS.out _ _ _ _ _ HR13.out HR14.out).mono ?_
          rintro e w15 ⟨rfl, hb15⟩
          have HS15 := Lib.hid (HS14.out.below hb15)
          clear hb15 y0 y1 y2 y3 y4 y5 y6 y7 y8 y9 y10 y11 z0 z1 z2 z3 u0 u1 u2 u3 v0 v1 v2 v3 hl12
          go_wp2_with fail
          exact ⟨⟨j + 1, by omega, by push_cast; rfl, Lib.hid ⟨T', by have := HTS.out; have := HL.out.1; omega, HS15.out⟩⟩, by simp only [intOf]; omega⟩
      · have t3 : decide (j < T.length) = false := decide_eq_false hlt
        obtain ⟨ts, hts, hS⟩ := hc.out
        have HS := Lib.hid hS
        clear hc hS hts
        go_wp2_with fail
        go_ret
        exact ⟨rfl, HS.out.bel⟩
end Go.Proofs.Ytghimladdioajaa
