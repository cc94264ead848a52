/- DictTwice, walked. -/
import Derived.Test.YtghimladdioajaaDcPlain
import Derived.Test.YtghimladdioajaaRaws
namespace Go.Proofs.Ytghimladdioajaa
open Go Go.RowKit
set_option linter.unusedVariables false
set_option linter.unusedSimpArgs false
def rawK (r : Raw) : Tm := termK r.k r.x r.t r.l
theorem rawK_small {r : Raw} (h : short5 r.x r.t r.l = true) : Small (rawK r) := by
  unfold short5 at h
  simp only [Bool.and_eq_true, decide_eq_true_eq] at h
  unfold rawK termK
  split
  · exact ⟨show r.x.size ≤ _ by omega, show (⟨#[]⟩ : ByteArray).size ≤ _ by decide, show (⟨#[]⟩ : ByteArray).size ≤ _ by decide⟩
  · split
    · exact ⟨show r.x.size ≤ _ by omega, show (⟨#[]⟩ : ByteArray).size ≤ _ by decide, show (⟨#[]⟩ : ByteArray).size ≤ _ by decide⟩
    · exact ⟨show r.x.size ≤ _ by omega, show r.t.size ≤ _ by omega, show r.l.size ≤ _ by omega⟩
/-- a dictionary and the document's beside it -/
def BothV (G : Tm → Bool) (w0 : World) (p m bm : Nat) (room : Int) (V : Value) (ts : List Tm) (wr : World) : Prop :=
  DcAt w0.heap.size p m ts room wr ∧ wr.heap[bm]? = some (.cells #[.int .i64 room, V] 29 (0, 0)) ∧ DocRow wr 0 V ts ∧ Fine G ts ∧ Dist ts ∧ Below w0.heap.size w0 wr ∧ w0.heap.size ≤ bm
def Both (G : Tm → Bool) (w0 : World) (p m bm : Nat) (room : Int) (ts : List Tm) (wr : World) : Prop := ∃ V, BothV G w0 p m bm room V ts wr
section
variable {G : Tm → Bool} {w0 w w' : World} {p m bm : Nat} {room : Int} {V : Value} {ts : List Tm}
theorem Both.begin (h : DcAt w0.heap.size p m [] room w) (hb : Below w0.heap.size w0 w) : Both G w0 p m w.heap.size room [] (w.alloc (.cells #[.int .i64 room, .slice none 0 0] 29)) :=
  ⟨_, h.keep ((Below.refl _ _).alloc (Nat.le_refl _) _), box_new _ _ _, RowOf.nil _ _, fun x hx => by simp at hx, fun i j hj => by simp at hj, hb.alloc hb.size _, hb.size⟩
theorem BothV.below (h : BothV G w0 p m bm room V ts w) (hb : Below w.heap.size w w') : BothV G w0 p m bm room V ts w' :=
  ⟨h.1.keep hb, box_below h.2.1 hb, h.2.2.1.below hb, h.2.2.2.1, h.2.2.2.2.1, h.2.2.2.2.2.1.trans (hb.mono h.2.2.2.2.2.1.size), h.2.2.2.2.2.2⟩
theorem BothV.alloc (h : BothV G w0 p m bm room V ts w) (o : Obj) : BothV G w0 p m bm room V ts (w.alloc o) := h.below ((Below.refl _ _).alloc (Nat.le_refl _) o)
theorem BothV.bel (h : BothV G w0 p m bm room V ts w) : Below w0.heap.size w0 w := h.2.2.2.2.2.1
theorem BothV.next {V' : Value} {ts' : List Tm} (h : BothV G w0 p m bm room V ts w) (hr' : DocRow w 0 V' ts') (hf' : Fine G ts') (hd' : DcAt w0.heap.size p m ts' room w') (hk : DK w0.heap.size p m w w') (hdist' : Dist ts') :
    BothV G w0 p m bm room V' ts' ((w'.setCell ⟨bm, 0, none⟩ (.int .i64 room)).setCell ⟨bm, 1, none⟩ V') := by
  have hbox := h.1.box hk h.2.1 (by decide) (by decide)
  have hrow := h.1.row hk hr' (by decide) (by decide)
  have hbox1 : (w'.setCell ⟨bm, 0, none⟩ (.int .i64 room)).heap[bm]? = some (.cells #[.int .i64 room, V] 29 (0, 0)) := set_cell0 hbox _
  refine ⟨(hd'.set hbox (by decide) (by decide) _).set hbox1 (by decide) (by decide) _, box_set2 hbox _ _, (hrow.set_other hbox (by decide) _).set_other hbox1 (by decide) _, hf', hdist', ?_, h.2.2.2.2.2.2⟩
  exact ((h.bel.trans hk.1).setCell (p := ⟨bm, 0, none⟩) h.2.2.2.2.2.2 _).setCell (p := ⟨bm, 1, none⟩) h.2.2.2.2.2.2 _
end
set_option maxRecDepth 100000 in
set_option maxHeartbeats 3200000 in
theorem twice_any (a : Option Addr) (rs : List Raw) (cap : Nat) (w : World) (hm : MaxV w) (h : RawsAt w a rs) (hl : rs.length ≤ 9223372036854775807) :
    Calls Try.prog 3 #[.slice a rs.length cap] w fun e w' => e = .returned (.bool true) ∧ Below w.heap.size w w' := by
  obtain ⟨G, hG⟩ := good_fn
  have HA := Lib.hid (awake5_any w hm)
  have HA2 := Lib.hid (fun w1 (hb : Below w.heap.size w w1) => awake5_any w1 (hm.below hb))
  have HM := Lib.hid hm
  have HR := Lib.hid h
  have HG := Lib.hid hG
  clear hm h hG
  by_cases hlen : (40 : Int) < rs.length
  · go_enter Try.func3, Try.ntmps3
    go_wp2_with fail
    refine HA.out.mono ?_
    rintro e w1 ⟨rfl, hb1⟩
    go_wp2_with fail
    refine (HA2.out _ hb1).mono ?_
    rintro e w2 ⟨rfl, hb2⟩
    go_wp2_with fail
    go_ret
    exact ⟨rfl, hb1.trans (hb2.mono hb1.size)⟩
  have hl40 : rs.length ≤ 40 := by omega
  clear hl
  have t0 : decide ((40 : Int) < rs.length) = false := decide_eq_false hlen
  obtain ⟨xs, hxs⟩ : ∃ xs, xs = rs.map rawK := ⟨_, rfl⟩
  have HX := Lib.hid hxs
  obtain ⟨T1, hT1⟩ : ∃ T1, T1 = putAll G 50 [] xs := ⟨_, rfl⟩
  have HT1 := Lib.hid hT1
  clear hxs hT1 hlen
  go_enter Try.func3, Try.ntmps3
  go_wp2_with fail
  refine HA.out.mono ?_
  rintro e w1 ⟨rfl, hb1⟩
  go_wp2_with fail
  refine (new_yes 50 w1 (by omega) w.heap.size hb1.size).mono ?_
  rintro e w2 ⟨p, m, rfl, hd2, hb2, hp2, hm2⟩
  have HB2 := Lib.hid (Both.begin (G := G) hd2 (hb1.trans (hb2.mono hb1.size)))
  clear hd2 hb2 hp2 hm2 hb1
  go_wp2_with fail
  go_loopw [6] (fun i wr => ∃ kk : Nat, kk ≤ 2 ∧ i = .int .i64 kk ∧ Hid (Both G w p m w2.heap.size 50 (if kk = 0 then [] else T1) wr)) (fun i _ => 2 - (intOf i).toNat)
  case atStart => exact ⟨0, by omega, rfl, HB2⟩
  case round =>
    obtain ⟨kk, hkk, rfl, hb⟩ := hrel
    obtain ⟨wo, hwo⟩ : ∃ wo : World, wo = wr := ⟨_, rfl⟩
    subst hwo
    by_cases h2 : kk < 2
    · obtain ⟨S0, hS0⟩ : ∃ S0, S0 = if kk = 0 then [] else T1 := ⟨_, rfl⟩
      rw [← hS0] at hb
      have HS0 := Lib.hid hS0
      have t2 : decide ((kk : Int) < 2) = true := decide_eq_true (by omega)
      clear hS0
      go_wp2_with fail
      go_loopw [34] (fun i wr => ∃ j : Nat, j ≤ rs.length ∧ i = .int .i64 j ∧ Hid (Both G w p m w2.heap.size 50 (putAll G 50 S0 (xs.take j)) wr)) (fun i _ => rs.length - (intOf i).toNat)
      case atStart => exact ⟨0, by omega, rfl, hb⟩
      case round =>
        obtain ⟨j, hj, rfl, hc⟩ := hrel
        by_cases hlt : j < rs.length
        · obtain ⟨V, hB⟩ := hc.out
          obtain ⟨av, cv, rfl⟩ := hB.2.2.1.form
          obtain ⟨b, off, rfl, r0, r1, r2, r3, rin⟩ := (HR.out.below hB.bel).at_ j hlt
          have hx : xs.take (j + 1) = xs.take j ++ [rawK (rs[j]'hlt)] := by
            rw [HX.out, List.take_succ_eq_append_getElem (by simpa using hlt), List.getElem_map]
          have hxm : rawK (rs[j]'hlt) ∈ xs := by rw [HX.out]; exact List.mem_map_of_mem (List.getElem_mem hlt)
          have HXX := Lib.hid (⟨hx, hxm⟩ : _ ∧ _)
          have HB := Lib.hid hB
          obtain ⟨r, hr⟩ : ∃ r, r = rs[j]'hlt := ⟨_, rfl⟩
          rw [← hr] at r0 r1 r2 r3 rin HXX
          obtain ⟨ts, hts⟩ : ∃ ts, ts = putAll G 50 S0 (xs.take j) := ⟨_, rfl⟩
          rw [← hts] at HB
          have HTS := Lib.hid hts
          have b1 : (0 : Int) ≤ (j : Int) := by omega
          have b2 : (j : Int) < (rs.length : Int) := by omega
          clear hx hxm hr hts hB hc rin
          go_wp2_with fail
          refine (short5_any _ _ _ _ _).mono ?_
          rintro e w3 ⟨rfl, hb3⟩
          have HB3 := Lib.hid ((HB.out.alloc _).below hb3)
          have HC3 := Lib.hid (box_below (box_new wr _ _) hb3)
          clear hb3 r0 r1 r2 r3
          cases hsh : short5 r.x r.t r.l with
          | false =>
            clear hsh
            go_wp2_with fail
            go_ret
            exact ⟨rfl, HB3.out.bel⟩
          | true =>
            obtain ⟨X, hX⟩ : ∃ X, X = rawK r := ⟨_, rfl⟩
            have hz : Small X := by rw [hX]; exact rawK_small hsh
            have hx : KeyT X := by rw [hX]; exact termK_key _ _ _ _
            rw [← hX] at HXX
            have HPL := Lib.hid (fun w => plain4_any r.k r.x r.t r.l w)
            change Hid (∀ w, Calls _ _ _ w fun e w' => e = .returned (refT (rawK r)) ∧ _) at HPL
            rw [← hX] at HPL
            obtain ⟨ts', N, C, hput⟩ : ∃ ts' N C, putT G 50 ts X = (ts', N, C) := ⟨_, _, _, rfl⟩
            have hl65 : ts.length ≤ 65536 := by obtain ⟨_, _, _, _, _, _, _, _, _, _, h8⟩ := HB3.out.1; exact h8
            have HRP := Lib.hid (fun w1 (h1 : DocRow w1 0 (.slice av ts.length cv) ts) => rput_any HG.out 50 _ ts X w1 h1 hz hx HB3.out.2.2.2.1.key (by omega))
            have HPU := Lib.hid (fun w1 (hm : MaxV w1) (hd : DcAt w.heap.size p m ts 50 w1) (hs : w.heap.size ≤ w1.heap.size) => put_any HG.out X hz hm hd HB3.out.2.2.2.2.1 (by omega) hs)
            have HRE := Lib.hid (fun w => real_any X hx w)
            unfold RPut at HRP
            rw [hput] at HRP HPU
            dsimp only at HRP HPU
            have hf' : Fine G ts' := by have := fine_put (room := 50) HB3.out.2.2.2.1 hx hz; rw [hput] at this; exact this
            have HP := Lib.hid (⟨hput, hf'⟩ : _ ∧ _)
            obtain ⟨c0, c1, c2, c3⟩ := cells4 HC3.out
            clear hsh hz hx hput hf' hl65
            unfold refT at HPL HRP HRE
            generalize tmV X = xv at *
            generalize kindV X = k0 at *
            generalize text0 X = s0 at *
            generalize text1 X = s1 at *
            generalize text2 X = s2 at *
            go_wp2_with fail
            refine (HPL.out _).mono ?_
            rintro e w4 ⟨rfl, hb4⟩
            have HB4 := Lib.hid ((HB3.out.below hb4).alloc (.cells #[.int .i64 k0, .string s0, .string s1, .string s2] 31))
            clear hb4 c0 c1 c2 c3
            obtain ⟨x0, x1, x2, x3⟩ := cells2 HB4.out.2.1
            go_wp2_with fail
            have HC4 := Lib.hid (box_new w4 #[.int .i64 k0, .string s0, .string s1, .string s2] 31)
            refine (HRP.out _ HB4.out.2.2.1).mono ?_
            rintro e w5 ⟨V', rfl, hr5, hb5⟩
            obtain ⟨av', cv', rfl⟩ := hr5.form
            have HB5 := Lib.hid ((HB4.out.below hb5).alloc (.cells #[.int .i64 50, .slice av' ts'.length cv'] 29))
            have HR5 := Lib.hid (hr5.below ((Below.refl _ _).alloc (Nat.le_refl _) (.cells #[.int .i64 50, .slice av' ts'.length cv'] 29)))
            have HC5 := Lib.hid (box_alloc (o' := .cells #[.int .i64 50, .slice av' ts'.length cv'] 29) (box_below HC4.out hb5))
            have HN5 := Lib.hid (box_new w5 #[.int .i64 50, .slice av' ts'.length cv'] 29)
            clear hb5 hr5 x0 x1 x2 x3
            obtain ⟨y0, y1, y2, y3⟩ := cells4 HC5.out
            go_wp2_with fail
            refine (HRE.out _).mono ?_
            rintro e w6 ⟨rfl, hb6⟩
            have HB6 := Lib.hid (HB5.out.below hb6)
            have HR6 := Lib.hid (HR5.out.below hb6)
            have HN6 := Lib.hid (box_below HN5.out hb6)
            clear hb6 y0 y1 y2 y3
            go_wp2_with fail
            refine (HPU.out w6 (HM.out.below HB6.out.bel) HB6.out.1 HB6.out.bel.size).mono ?_
            rintro e w7 ⟨rfl, hd7, hk7, hdist7⟩
            have HX7 := Lib.hid (HB6.out.next HR6.out HP.out.2 hd7 hk7 hdist7)
            obtain ⟨z0, z1, z2, z3⟩ := cells2 (HB6.out.1.box hk7 HN6.out (by decide) (by decide))
            obtain ⟨x0, x1, x2, x3⟩ := cells2 (HB6.out.1.box hk7 HB6.out.2.1 (by decide) (by decide))
            clear hd7 hk7 hdist7
            by_cases hk1 : kk = 1
            · have hsame : ts' = ts := by
                have hS : S0 = T1 := by rw [HS0.out, hk1]; rfl
                have hth : ∀ x ∈ xs, G x = true → ∃ j, idxT x T1 = some j := by
                  rw [HT1.out]
                  refine putAll_there xs [] ?_ ?_
                  · intro y hy
                    rw [HX.out] at hy
                    obtain ⟨q, _, rfl⟩ := List.mem_map.1 hy
                    exact termK_key _ _ _ _
                  · rw [HX.out]; simp; omega
                have hts : ts = T1 := by
                  rw [HTS.out, hS]
                  exact putAll_same _ fun y hy => hth y (List.mem_of_mem_take hy)
                have hp1 : (putT G 50 ts X).1 = ts := by rw [hts]; exact putT_same (hth X HXX.out.2)
                rw [HP.out.1] at hp1
                exact hp1
              have HSM := Lib.hid hsame
              subst hsame
              have t4 : ((kk : Int) == 1) = true := by simp [hk1]
              clear hk1
              go_wp2_with fail
              refine ⟨⟨j + 1, by omega, by push_cast; rfl, Lib.hid ⟨.slice av' ts'.length cv', ?_⟩⟩, by simp only [intOf]; omega⟩
              rw [HXX.out.1, putAll_snoc, ← HTS.out, HP.out.1]
              exact HX7.out
            · have t4 : ((kk : Int) == 1) = false := by simp; omega
              clear hk1
              go_wp2_with fail
              refine ⟨⟨j + 1, by omega, by push_cast; rfl, Lib.hid ⟨.slice av' ts'.length cv', ?_⟩⟩, by simp only [intOf]; omega⟩
              rw [HXX.out.1, putAll_snoc, ← HTS.out, HP.out.1]
              exact HX7.out
        · have t3 : decide (j < rs.length) = false := decide_eq_false hlt
          obtain rfl : j = rs.length := by omega
          go_wp2_with fail
          refine ⟨⟨kk + 1, by omega, by push_cast; rfl, Lib.hid ?_⟩, by simp only [intOf]; omega⟩
          have hall : xs.take rs.length = xs := by rw [HX.out]; exact List.take_of_length_le (by simp)
          rw [if_neg (by omega)]
          have hc' := hc.out
          rw [hall] at hc'
          by_cases hk0 : kk = 0
          · rw [HS0.out, if_pos hk0, ← HT1.out] at hc'
            exact hc'
          · have hth : ∀ x ∈ xs, G x = true → ∃ j, idxT x T1 = some j := by
              rw [HT1.out]
              refine putAll_there xs [] ?_ ?_
              · intro y hy
                rw [HX.out] at hy
                obtain ⟨q, _, rfl⟩ := List.mem_map.1 hy
                exact termK_key _ _ _ _
              · rw [HX.out]; simp; omega
            rw [HS0.out, if_neg hk0, putAll_same xs hth] at hc'
            exact hc'
    · obtain rfl : kk = 2 := by omega
      obtain ⟨V, hB⟩ := hb.out
      obtain ⟨av, cv, rfl⟩ := hB.2.2.1.form
      obtain ⟨x0, x1, x2, x3⟩ := cells2 hB.2.1
      have HB := Lib.hid hB
      clear hB hb
      go_wp2_with fail
      refine (is_any HG.out 50 50 _ _ (HM.out.below HB.out.bel) HB.out.1 HB.out.2.2.1 HB.out.2.2.2.1 HB.out.2.2.2.2.1).mono ?_
      rintro e w3 ⟨rfl, hb3⟩
      go_wp2_with fail
      go_ret
      exact ⟨rfl, HB.out.bel.trans (hb3.mono HB.out.bel.size)⟩
end Go.Proofs.Ytghimladdioajaa
