/- The law ScanPlays: its walk. Every string and every acts. -/
import Derived.Test.YteicjmippeobpaaDoorScPlayParts
import Derived.Deep.RegionHeld3
import Derived.Deep.RegionWith
import Derived.Deep.QuietTactic
import Derived.BigQuiet
namespace Go.Proofs.YteicjmippeobpaaDoor
open Go Go.RowKit
set_option linter.unusedVariables false
set_option maxRecDepth 100000 in
set_option maxHeartbeats 100000000 in
theorem plays_walk (s : ByteArray) (aa : Option Addr) (len cp : Nat) (w : World) (he : Esc w) (hs : s.size ≤ 9223372036854775807) (hA : ActsAt w aa len) : Calls Tryd.prog 10 #[.string s, .slice aa len cp] w fun e w' => e = .returned (.bool true) ∧ Below w.heap.size w w' := by
  have HA := Lib.hid (awake_any w he)
  have HA2 := Lib.hid (fun w' (hb : Below w.heap.size w w') => awake_any w' (he.below he.lt hb))
  have HEs := Lib.hid he
  have HAC := Lib.hid hA
  clear he hA
  by_cases h1 : 200 < s.size ∨ 30 < len
  · rcases (by omega : (200 : Int) < s.size ∨ ((s.size : Int) ≤ 200 ∧ (30 : Int) < len)) with h2 | ⟨h2, h3⟩
    all_goals
      clear h1
      go_enter Tryd.func10, Tryd.ntmps10
      go_wp2_with fail
      refine HA.out.mono ?_
      rintro e w1 ⟨rfl, hb1⟩
      go_wp2_with fail
      refine (HA2.out _ hb1).mono ?_
      rintro e w2 ⟨rfl, hb2⟩
      go_wp2_with fail
      go_ret
      exact ⟨rfl, hb1.trans (hb2.mono hb1.size)⟩
  have a3 : (s.size : Int) ≤ 200 := by omega
  have l3 : (len : Int) ≤ 30 := by omega
  clear h1 hs
  obtain ⟨l, r, hr⟩ := read_some s.data.toList
  have hll := read_len hr
  have e1 : s.data.toList.length = s.size := rfl
  have hl3 : l.length ≤ 200 := by omega
  have HSG := Lib.hid hr.2.1
  clear hll e1
  rcases r with _ | ⟨x, r⟩
  · have NW := Lib.hid (fun w => new_ok s l w hr (by omega))
    have SG := Lib.hid (fun w => signs_row s l w hr (by omega))
    clear hr
    go_enter Tryd.func10, Tryd.ntmps10
    go_wp2_with fail
    refine HA.out.mono ?_
    rintro e w1 ⟨rfl, hb1⟩
    go_wp2_with fail
    refine (SG.out _).mono ?_
    rintro e w2 ⟨a1, c1, rfl, ho, hb2⟩
    have HB := Lib.hid (hb1.trans (hb2.mono hb1.size))
    have HO := Lib.hid ho
    clear hb1 hb2 ho
    go_wp2_with fail
    refine (NW.out _).mono ?_
    rintro e w5 ⟨X, g, cap, rfl, hS, hX, hg, hb⟩
    have hXw : w.heap.size ≤ X := by have := HB.out.size; omega
    replace HB := Lib.hid (HB.out.trans (hb.mono HB.out.size))
    replace HO := Lib.hid (SgAt.of HO.out hb hX)
    have HS := Lib.hid hS
    clear hb hS hX hg
    have HT := Lib.hid (show St l 0 X g cap a1 c1 w w5 from ⟨HS.out, HO.out, HB.out, hXw, HSG.out, by omega⟩)
    clear HS HB HO HA HA2 NW SG
    go_wp2_with fail
    go_loopw [10, 61] (fun v i wr => ∃ k p : Nat, k ≤ len ∧ p ≤ l.length ∧ v = .int .i64 p ∧ i = .int .i64 k ∧ Hid (St l p X g cap a1 c1 w wr)) (fun _ i _ => len - (intOf i).toNat)
    case atStart => exact ⟨0, 0, by omega, by omega, rfl, rfl, HT⟩
    case round =>
      obtain ⟨k, p, hk, hp, rfl, rfl, HP⟩ := hrel
      clear HT
      by_cases hlt : k < len
      · obtain ⟨b, off, haa, hact⟩ : ∃ b off, aa = some ⟨b, off, none⟩ ∧ ActAt w b (off + k * 5) := by
          rcases HAC.out with h0 | ⟨b, off, h1, _, h3⟩
          · omega
          · exact ⟨b, off, h1, h3 k hlt⟩
        subst haa
        obtain ⟨kd, nn, t, sg, ca, cl, cc, cs, d0, d1, d2, d3, d4, kd0, kd1, nn0, nn1, ht, sg0, sg1, hcl, hcm, hcs⟩ := hact
        have HCS := Lib.hid (fun w' (hb : Below w.heap.size w w') => hcs.cls hb hXw)
        have bd : b < w.heap.size := block_lt_of_cell d0
        replace d0 := cell_below d0 HP.out.2.2.1
        replace d1 := cell_below d1 HP.out.2.2.1
        replace d2 := cell_below d2 HP.out.2.2.1
        replace d3 := cell_below d3 HP.out.2.2.1
        replace d4 := cell_below d4 HP.out.2.2.1
        clear hcs
        have hws : b < wr.heap.size := by have := HP.out.2.2.1.size; omega
        have bX : X < wr.heap.size := HP.out.1.lt
        clear bd
        go_upto_region 11 with (fail)
        obtain ⟨bv, hbv⟩ : ∃ bv : Array Value, bv = #[.int .u8 kd, .int .u8 nn, .string t, .int .i32 sg, .slice ca cl cc] := ⟨_, rfl⟩
        rw [← hbv]
        have HBV := Lib.hid hbv
        obtain ⟨wb, hwb⟩ : ∃ wb, wb = wr.alloc (.cells bv 48) := ⟨_, rfl⟩
        rw [← hwb]
        have HPB : Hid (PS l p X g cap a1 c1 wr.heap.size bv w wb) := Lib.hid (by
          rw [hwb]
          exact ⟨HP.out.below ((Below.refl _ _).alloc (Nat.le_refl _) _), heap_alloc_new _ _, by omega⟩)
        clear hbv hwb d0 d1 d2 d3 d4 hws bX HP
        generalize wr.heap.size = B at *
        have b0 := HPB.out.cell 0 _ (by rw [HBV.out]; rfl)
        have b1 := HPB.out.cell 1 _ (by rw [HBV.out]; rfl)
        have b2 := HPB.out.cell 2 _ (by rw [HBV.out]; rfl)
        have b3 := HPB.out.cell 3 _ (by rw [HBV.out]; rfl)
        have b4 := HPB.out.cell 4 _ (by rw [HBV.out]; rfl)
        by_cases hbig : 50 < t.size ∨ 8 < cl
        · rcases (by omega : (50 : Int) < t.size ∨ ((t.size : Int) ≤ 50 ∧ (8 : Int) < cl)) with h2 | ⟨h2, h3⟩
          all_goals
            clear hbig
            go_wp2_with fail
            go_ret
            exact ⟨rfl, HPB.out.1.2.2.1⟩
        have t50 : (t.size : Int) ≤ 50 := by omega
        have c8 : (cl : Int) ≤ 8 := by omega
        have e50 : decide ((50 : Int) < t.size) = false := by simpa using t50
        have e8 : decide ((8 : Int) < cl) = false := by simpa using c8
        clear hbig
        rcases (by omega : kd % 7 = 0 ∨ kd % 7 = 1 ∨ kd % 7 = 2 ∨ kd % 7 = 3 ∨ kd % 7 = 4 ∨ kd % 7 = 5 ∨ kd % 7 = 6) with hk7 | hk7 | hk7 | hk7 | hk7 | hk7 | hk7
        · by_cases hpl : p < l.length
          · as_aux_lemma =>
              obtain ⟨gr, hgr, hgl, hrc⟩ := HPB.out.row p hpl
              subst hgr
              have hsn := HPB.out.sign p hpl
              have NX := Lib.hid (next_yes l p X g cap _ HPB.out.1.1 hpl (by omega) hsn)
              generalize l[p] = n at hrc NX hsn
              have n0 : 0 ≤ n ∧ n ≤ 1114111 := by unfold SignP at hsn; omega
              obtain ⟨n0, n1⟩ := n0
              clear hsn
              go_wp2_with fail
              refine NX.out.mono ?_
              intro e w1 hm
              obtain ⟨rfl, hp1⟩ := HPB.out.moved hm
              have HP1 := Lib.hid hp1
              clear hp1 hm NX hrc
              go_wp2_with fail
              refine (place_any l (p + 1) X g cap _ HP1.out.1.1).mono ?_
              rintro e wf ⟨rfl, rfl⟩
              rw [show ((p + 1 : Nat) : Int) = (p : Int) + 1 from by omega]
              go_wp2_with fail
              go_roundw
              case rel => exact ⟨k + 1, p + 1, by omega, by omega, by go_num, by go_num, Lib.hid HP1.out.1⟩
              case measure => simp [intOf]; omega
          · as_aux_lemma =>
              have NX := Lib.hid (next_no l p X g cap _ HPB.out.1.1 (by omega))
              have hnl : decide ((p : Int) < l.length) = false := by simpa using hpl
              go_wp2_with fail
              refine NX.out.mono ?_
              intro e w1 hm
              obtain ⟨rfl, hp1⟩ := HPB.out.moved hm
              have HP1 := Lib.hid hp1
              clear hp1 hm NX
              go_wp2_with fail
              refine (place_any l (p) X g cap _ HP1.out.1.1).mono ?_
              rintro e wf ⟨rfl, rfl⟩
              go_wp2_with fail
              go_roundw
              case rel => exact ⟨k + 1, p, by omega, by omega, by go_num, by go_num, Lib.hid HP1.out.1⟩
              case measure => simp [intOf]; omega
        · obtain ⟨tl, tr, htr⟩ := read_some t.data.toList
          rcases tr with _ | ⟨x, tr⟩
          · by_cases hfit : p + tl.length ≤ l.length
            · by_cases hD : (l.drop p).take tl.length = tl
              · as_aux_lemma =>
                  have SGT := Lib.hid (fun w => signs_row t tl w htr (by omega))
                  have IST := Lib.hid (fun w (h : ScW l p X g cap w) => is_any t tl l p X g cap w htr (by omega) h HSG.out (by omega))
                  have HTB := Lib.hid (tBytes_eq (u := (l.drop p).take tl.length) htr (fun n hn => HSG.out n (List.mem_of_mem_drop (List.mem_of_mem_take hn))))
                  have htl := read_len htr
                  have e1 : t.data.toList.length = t.size := rfl
                  have htl50 : tl.length ≤ 50 := by omega
                  clear htr htl e1

                  have IST2 : Hid (∀ w, ScW l p X g cap w → Calls Tryd.prog 31 #[.pointer (some ⟨X, 0, none⟩), .string t] w (Moved l (p + tl.length) X g cap (.bool true) w)) := Lib.hid (fun w h => by
                    have := IST.out w h
                    rw [if_pos hD, decide_eq_true hD] at this
                    exact this)
                  obtain ⟨T, hT⟩ : ∃ T, T = tBytes ((l.drop p).take tl.length) := ⟨_, rfl⟩
                  have hTt : T = t := by rw [hT]; exact HTB.out.2 hD
                  rw [hTt] at hT
                  have HT0 := Lib.hid hT
                  clear hT hTt T hD IST HTB

                  go_wp2_with fail
                  refine (SGT.out _).mono ?_
                  rintro e w1 ⟨a2, c2, rfl, ho, hb1⟩
                  have HP1 := Lib.hid (HPB.out.below hb1)
                  have q2 := HP1.out.cell 2 _ (by rw [HBV.out]; rfl)
                  clear ho hb1 SGT b0 b1 b2 b3 b4

                  obtain ⟨a', c', hsl, hcl'⟩ := slice_mid l a1 c1 X p (p + tl.length) w1 HP1.out.1.2.1 (by omega) hfit
                  rw [Nat.add_sub_cancel_left] at hsl hcl'
                  have TX : Hid (∀ w', (w'.cell? ⟨B, 2, none⟩ = some (.string t) ∧ PS l p X g cap a1 c1 B bv w w') → Calls Tryd.prog 29 #[.slice a' tl.length c'] w' fun e w2 => e = .returned (.string t) ∧ PS l p X g cap a1 c1 B bv w w2) := Lib.hid (fun w' ⟨_, h⟩ => by
                    have := text_any ((l.drop p).take tl.length) a' tl.length c' X w' (hcl' w' h.1.2.1) (fun n hn => HSG.out n (List.mem_of_mem_drop (List.mem_of_mem_take hn))) (by omega)
                    rw [← HT0.out] at this
                    exact this.mono (fun e w2 hh => ⟨hh.1, h.below hh.2⟩))
                  clear hcl'
                  have hg1 : IntKind.i64.wrap ((p : Int) + tl.length) = (p : Int) + tl.length := IntWalk.i64_in _ ⟨by omega, by omega⟩
                  have hfi : (p : Int) + tl.length ≤ l.length := by omega
                  have hmi : min ((p : Int) + tl.length) l.length = (p : Int) + tl.length := by omega
                  have hsl2 : ∀ w : World, (Instr.slice 23 (.slice a1 l.length c1) (some (.int .i64 p)) (some (.int .i64 ((p : Int) + tl.length))) none).run Tryd.prog w = .ok (.slice a' tl.length c') w := by
                    intro w
                    have := hsl w
                    rwa [show ((p + tl.length : Nat) : Int) = (p : Int) + tl.length from by omega] at this
                  clear hsl

                  go_wp2_with fail
                  go_region_held3 (fun w' => w'.cell? ⟨B, 2, none⟩ = some (.string t) ∧ PS l p X g cap a1 c1 B bv w w') (first | assumption | exact ⟨h2.cell 2 _ (by rw [HBV.out]; rfl), h2⟩ | exact ⟨q2, HP1.out⟩ | exact ⟨q2, HP1.out.drewN 1⟩) (first
                    | (go_at_call 29; refine (TX.out _ (by assumption)).mono ?_; rintro e w2 ⟨rfl, h2⟩))

                  all_goals
                    have HP2 := Lib.hid h2
                    clear h2
                    go_wp2_with fail
                    refine (IST2.out _ HP2.out.1.1).mono ?_
                    intro e w3 hm
                    obtain ⟨rfl, hp3⟩ := HP2.out.moved hm
                    have HP3 := Lib.hid hp3
                    clear hp3 hm IST2 q2 HP2
                    go_wp2_with fail
                    refine (place_any l (p + tl.length) X g cap _ HP3.out.1.1).mono ?_
                    rintro e wf ⟨rfl, rfl⟩
                    rw [show ((p + tl.length : Nat) : Int) = (p : Int) + tl.length from by omega]
                    go_wp2_with fail
                    go_roundw
                    case rel => exact ⟨k + 1, p + tl.length, by omega, by omega, by go_num, by go_num, Lib.hid HP3.out.1⟩
                    case measure => simp [intOf]; omega
              · as_aux_lemma =>
                  have SGT := Lib.hid (fun w => signs_row t tl w htr (by omega))
                  have IST := Lib.hid (fun w (h : ScW l p X g cap w) => is_any t tl l p X g cap w htr (by omega) h HSG.out (by omega))
                  have HTB := Lib.hid (tBytes_eq (u := (l.drop p).take tl.length) htr (fun n hn => HSG.out n (List.mem_of_mem_drop (List.mem_of_mem_take hn))))
                  have htl := read_len htr
                  have e1 : t.data.toList.length = t.size := rfl
                  have htl50 : tl.length ≤ 50 := by omega
                  clear htr htl e1

                  have IST2 : Hid (∀ w, ScW l p X g cap w → Calls Tryd.prog 31 #[.pointer (some ⟨X, 0, none⟩), .string t] w (Moved l p X g cap (.bool false) w)) := Lib.hid (fun w h => by
                    have := IST.out w h
                    rw [if_neg hD, decide_eq_false hD] at this
                    exact this)
                  obtain ⟨T, hT⟩ : ∃ T, T = tBytes ((l.drop p).take tl.length) := ⟨_, rfl⟩
                  have HT0 := Lib.hid hT
                  have hTt : (T.toList == t.toList) = false := list_ne (by rw [hT]; exact fun h => hD (HTB.out.1 h))
                  clear hT hD IST HTB

                  go_wp2_with fail
                  refine (SGT.out _).mono ?_
                  rintro e w1 ⟨a2, c2, rfl, ho, hb1⟩
                  have HP1 := Lib.hid (HPB.out.below hb1)
                  have q2 := HP1.out.cell 2 _ (by rw [HBV.out]; rfl)
                  clear ho hb1 SGT b0 b1 b2 b3 b4

                  obtain ⟨a', c', hsl, hcl'⟩ := slice_mid l a1 c1 X p (p + tl.length) w1 HP1.out.1.2.1 (by omega) hfit
                  rw [Nat.add_sub_cancel_left] at hsl hcl'
                  have TX : Hid (∀ w', (w'.cell? ⟨B, 2, none⟩ = some (.string t) ∧ PS l p X g cap a1 c1 B bv w w') → Calls Tryd.prog 29 #[.slice a' tl.length c'] w' fun e w2 => e = .returned (.string T) ∧ PS l p X g cap a1 c1 B bv w w2) := Lib.hid (fun w' ⟨_, h⟩ => by
                    have := text_any ((l.drop p).take tl.length) a' tl.length c' X w' (hcl' w' h.1.2.1) (fun n hn => HSG.out n (List.mem_of_mem_drop (List.mem_of_mem_take hn))) (by omega)
                    rw [← HT0.out] at this
                    exact this.mono (fun e w2 hh => ⟨hh.1, h.below hh.2⟩))
                  clear hcl'
                  have hg1 : IntKind.i64.wrap ((p : Int) + tl.length) = (p : Int) + tl.length := IntWalk.i64_in _ ⟨by omega, by omega⟩
                  have hfi : (p : Int) + tl.length ≤ l.length := by omega
                  have hmi : min ((p : Int) + tl.length) l.length = (p : Int) + tl.length := by omega
                  have hsl2 : ∀ w : World, (Instr.slice 23 (.slice a1 l.length c1) (some (.int .i64 p)) (some (.int .i64 ((p : Int) + tl.length))) none).run Tryd.prog w = .ok (.slice a' tl.length c') w := by
                    intro w
                    have := hsl w
                    rwa [show ((p + tl.length : Nat) : Int) = (p : Int) + tl.length from by omega] at this
                  clear hsl

                  go_wp2_with fail
                  go_region_held3 (fun w' => w'.cell? ⟨B, 2, none⟩ = some (.string t) ∧ PS l p X g cap a1 c1 B bv w w') (first | assumption | exact ⟨h2.cell 2 _ (by rw [HBV.out]; rfl), h2⟩ | exact ⟨q2, HP1.out⟩ | exact ⟨q2, HP1.out.drewN 1⟩) (first
                    | (go_at_call 29; refine (TX.out _ (by assumption)).mono ?_; rintro e w2 ⟨rfl, h2⟩))

                  all_goals
                    have HP2 := Lib.hid h2
                    clear h2
                    go_wp2_with fail
                    refine (IST2.out _ HP2.out.1.1).mono ?_
                    intro e w3 hm
                    obtain ⟨rfl, hp3⟩ := HP2.out.moved hm
                    have HP3 := Lib.hid hp3
                    clear hp3 hm IST2 q2 HP2
                    go_wp2_with fail
                    refine (place_any l (p) X g cap _ HP3.out.1.1).mono ?_
                    rintro e wf ⟨rfl, rfl⟩
                    go_wp2_with fail
                    go_roundw
                    case rel => exact ⟨k + 1, p, by omega, by omega, by go_num, by go_num, Lib.hid HP3.out.1⟩
                    case measure => simp [intOf]; omega
            · as_aux_lemma =>
                have SGT := Lib.hid (fun w => signs_row t tl w htr (by omega))
                have IST := Lib.hid (fun w (h : ScW l p X g cap w) => is_any t tl l p X g cap w htr (by omega) h HSG.out (by omega))
                have HTB := Lib.hid (tBytes_eq (u := (l.drop p).take tl.length) htr (fun n hn => HSG.out n (List.mem_of_mem_drop (List.mem_of_mem_take hn))))
                have htl := read_len htr
                have e1 : t.data.toList.length = t.size := rfl
                have htl50 : tl.length ≤ 50 := by omega
                clear htr htl e1

                have hD : ¬ (l.drop p).take tl.length = tl := fun h => by
                  have := congrArg List.length h
                  rw [List.length_take, List.length_drop] at this
                  omega
                have IST2 : Hid (∀ w, ScW l p X g cap w → Calls Tryd.prog 31 #[.pointer (some ⟨X, 0, none⟩), .string t] w (Moved l p X g cap (.bool false) w)) := Lib.hid (fun w h => by
                  have := IST.out w h
                  rw [if_neg hD, decide_eq_false hD] at this
                  exact this)
                have hf1 : decide ((p : Int) + tl.length ≤ l.length) = false := by simpa using (show ¬ (p : Int) + tl.length ≤ l.length by omega)
                have hf2 : decide (p + tl.length ≤ l.length) = false := by simpa using (show ¬ p + tl.length ≤ l.length by omega)
                clear hD IST HTB

                go_wp2_with fail
                refine (SGT.out _).mono ?_
                rintro e w1 ⟨a2, c2, rfl, ho, hb1⟩
                have HP1 := Lib.hid (HPB.out.below hb1)
                have q2 := HP1.out.cell 2 _ (by rw [HBV.out]; rfl)
                clear ho hb1 SGT b0 b1 b2 b3 b4

                go_wp2_with fail
                go_quiet (fail)
                go_wp2_with fail
                refine (IST2.out _ (HP1.out.drewN _).1.1).mono ?_
                intro e w3 hm
                obtain ⟨rfl, hp3⟩ := (HP1.out.drewN _).moved hm
                have HP3 := Lib.hid hp3
                clear hp3 hm IST2 q2
                go_wp2_with fail
                refine (place_any l (p) X g cap _ HP3.out.1.1).mono ?_
                rintro e wf ⟨rfl, rfl⟩
                go_wp2_with fail
                go_roundw
                case rel => exact ⟨k + 1, p, by omega, by omega, by go_num, by go_num, Lib.hid HP3.out.1⟩
                case measure => simp [intOf]; omega
          · as_aux_lemma =>
              have SGT := Lib.hid (fun w => signs_any t tl (x :: tr) w htr (by omega))
              clear htr
              go_wp2_with fail
              refine (SGT.out _).mono ?_
              rintro e w1 ⟨a2, c2, rfl, ho, hb1⟩
              have HP1 := Lib.hid (HPB.out.below hb1)
              clear ho hb1 SGT
              go_wp2_with fail
              go_roundw
              case rel => exact ⟨k + 1, p, by omega, by omega, by go_num, by go_num, Lib.hid HP1.out.1⟩
              case measure => simp [intOf]; omega
        · as_aux_lemma =>
            obtain ⟨N, hN⟩ : ∃ N, N = runN [0] l p := ⟨_, rfl⟩
            have HN := Lib.hid hN
            have hNl : p + N ≤ l.length := by rw [hN]; exact runN_le [0] l p hp
            clear hN
            go_wp2_with fail
            rw [hk7]
            clear b0 b1 b2 b3 b4 hk7
            go_loopw [13] (fun v wr => ∃ q : Nat, p ≤ q ∧ q ≤ p + N ∧ v = .int .i64 q ∧ Hid (PS l p X g cap a1 c1 B bv w wr)) (fun v _ => l.length - (intOf v).toNat)
            case atStart => exact ⟨p, by omega, by omega, rfl, HPB⟩
            case round =>
              obtain ⟨q, hq1, hq2, rfl, HPz⟩ := hrel
              clear HPB
              by_cases hqN : q < p + N
              · have hql : q < l.length := by omega
                have hc0 : classV (l[q]'hql) = 0 := by
                  have := runN_in (cs := [0]) (l := l) (p := p) (q := q) hq1 (by rw [← HN.out]; exact hqN) hql
                  simpa using this
                obtain ⟨gr, hgr, hgl, hrc⟩ := HPz.out.row q hql
                subst hgr
                have hsn := HPz.out.sign q hql
                generalize l[q] = n at hrc hsn hc0
                have n0 : 0 ≤ n ∧ n ≤ 1114111 := by unfold SignP at hsn; omega
                obtain ⟨n0, n1⟩ := n0
                have HC0 := Lib.hid hc0
                clear hsn hc0
                go_wp2_with fail
                refine ((rclass_any n _ (by omega) (by omega)).mono (fun e w' h => (⟨h.1, h.2.symm⟩ : e = _ ∧ _ = w'))).mono ?_
                rintro e w' ⟨rfl, rfl⟩
                rw [HC0.out]
                go_wp2_with fail
                go_roundw
                case rel => exact ⟨q + 1, by omega, by omega, by go_num, HPz⟩
                case measure => simp [intOf]; omega
              · obtain rfl : q = p + N := by omega
                by_cases hql : p + N < l.length
                · have hc0 : (classV (l[p + N]'hql) == 0) = false := by
                    have := runN_end (cs := [0]) (l := l) (p := p) (by rw [← HN.out]; exact hql)
                    simp only [← HN.out] at this
                    rw [beq_eq_false_iff_ne]
                    intro h
                    rw [h] at this
                    simp at this
                  obtain ⟨gr, hgr, hgl, hrc⟩ := HPz.out.row (p + N) hql
                  subst hgr
                  have hsn := HPz.out.sign (p + N) hql
                  generalize l[p + N] = n at hrc hsn hc0
                  have n0 : 0 ≤ n ∧ n ≤ 1114111 := by unfold SignP at hsn; omega
                  obtain ⟨n0, n1⟩ := n0
                  clear hsn
                  go_wp2_with fail
                  refine ((rclass_any n _ (by omega) (by omega)).mono (fun e w' h => (⟨h.1, h.2.symm⟩ : e = _ ∧ _ = w'))).mono ?_
                  rintro e w' ⟨rfl, rfl⟩
                  go_wp2_with fail
                  refine (blanks_any l p X g cap _ HPz.out.1.1 HSG.out (by omega)).mono ?_
                  intro e w1 hm
                  obtain ⟨rfl, hp1⟩ := HPz.out.moved hm
                  rw [← HN.out] at hp1 ⊢
                  have HP1 := Lib.hid hp1
                  clear hp1 hm
                  go_wp2_with fail
                  refine (place_any l (p + N) X g cap _ HP1.out.1.1).mono ?_
                  rintro e wf ⟨rfl, rfl⟩
                  rw [show ((p + N : Nat) : Int) = (p : Int) + N from by omega]
                  go_wp2_with fail
                  go_roundw
                  case rel => exact ⟨k + 1, p + N, by omega, by omega, by go_num, by go_num, Lib.hid HP1.out.1⟩
                  case measure => simp [intOf]; omega

                · have hnl : decide (p + N < l.length) = false := by simpa using hql
                  have hnl2 : decide ((p : Int) + N < l.length) = false := by simpa using (show ¬ (p : Int) + N < l.length by omega)
                  go_wp2_with fail
                  refine (blanks_any l p X g cap _ HPz.out.1.1 HSG.out (by omega)).mono ?_
                  intro e w1 hm
                  obtain ⟨rfl, hp1⟩ := HPz.out.moved hm
                  rw [← HN.out] at hp1 ⊢
                  have HP1 := Lib.hid hp1
                  clear hp1 hm
                  go_wp2_with fail
                  refine (place_any l (p + N) X g cap _ HP1.out.1.1).mono ?_
                  rintro e wf ⟨rfl, rfl⟩
                  rw [show ((p + N : Nat) : Int) = (p : Int) + N from by omega]
                  go_wp2_with fail
                  go_roundw
                  case rel => exact ⟨k + 1, p + N, by omega, by omega, by go_num, by go_num, Lib.hid HP1.out.1⟩
                  case measure => simp [intOf]; omega
        · as_aux_lemma =>
            obtain ⟨N, hN⟩ : ∃ N, N = runN cs l p := ⟨_, rfl⟩
            have HN := Lib.hid hN
            have hNl : p + N ≤ l.length := by rw [hN]; exact runN_le cs l p hp
            obtain ⟨T, hT⟩ : ∃ T, T = tBytes ((l.drop p).take N) := ⟨_, rfl⟩
            have HT0 := Lib.hid hT
            clear hN hT
            go_wp2_with fail
            rw [hk7]
            clear b0 b1 b2 b3 b4 hk7
            go_loopw [13] (fun v wr => ∃ q : Nat, p ≤ q ∧ q ≤ p + N ∧ v = .int .i64 q ∧ Hid (PS l p X g cap a1 c1 B bv w wr)) (fun v _ => l.length - (intOf v).toNat)
            case atStart => exact ⟨p, by omega, by omega, rfl, HPB⟩
            case round =>
              obtain ⟨q, hq1, hq2, rfl, HPz⟩ := hrel
              clear HPB
              by_cases hqN : q < p + N
              · have hql : q < l.length := by omega
                have hc0 := runN_in (cs := cs) (l := l) (p := p) (q := q) hq1 (by rw [← HN.out]; exact hqN) hql
                obtain ⟨gr, hgr, hgl, hrc⟩ := HPz.out.row q hql
                subst hgr
                have hsn := HPz.out.sign q hql
                generalize l[q] = n at hrc hsn hc0
                have n0 : 0 ≤ n ∧ n ≤ 1114111 := by unfold SignP at hsn; omega
                obtain ⟨n0, n1⟩ := n0
                have CX := Lib.hid (fun w => rclass_any n w (by omega) (by omega))
                have IX := Lib.hid (fun w' (h : PS l p X g cap (some ⟨gr, 0, none⟩) c1 B bv w w') => in_any cs ca cl cc X (classV n) w' (HCS.out w' h.1.2.2.1) (by omega))
                rw [hc0] at IX
                have q4 := HPz.out.cell 4 _ (by rw [HBV.out]; rfl)
                have hg1 : decide (q < l.length) = true := by simpa using hql
                have hg2 : decide ((q : Int) < l.length) = true := by simpa using (show (q : Int) < l.length by omega)
                clear hsn hc0
                go_wp2_with fail
                go_quiet (first | (go_at_call 16; exact Calls.quiet_of_same (CX.out _)) | (go_at_call 33; exact Calls.quiet_of_same (IX.out _ (HPz.out.drewN _))) | (go_at_call 33; exact Calls.quiet_of_same (IX.out _ HPz.out)))
                go_wp2_with fail
                go_roundw
                case rel => exact ⟨q + 1, by omega, by omega, by go_num, Lib.hid (HPz.out.drewN _)⟩
                case measure => simp [intOf]; omega
              · obtain rfl : q = p + N := by omega
                by_cases hql : p + N < l.length
                · have hc0 : cs.contains (classV (l[p + N]'hql)) = false := by
                    have := runN_end (cs := cs) (l := l) (p := p) (by rw [← HN.out]; exact hql)
                    simp only [← HN.out] at this
                    exact this
                  obtain ⟨gr, hgr, hgl, hrc⟩ := HPz.out.row (p + N) hql
                  subst hgr
                  have hsn := HPz.out.sign (p + N) hql
                  generalize l[p + N] = n at hrc hsn hc0
                  have n0 : 0 ≤ n ∧ n ≤ 1114111 := by unfold SignP at hsn; omega
                  obtain ⟨n0, n1⟩ := n0
                  have CX := Lib.hid (fun w => rclass_any n w (by omega) (by omega))
                  have IX := Lib.hid (fun w' (h : PS l p X g cap (some ⟨gr, 0, none⟩) c1 B bv w w') => in_any cs ca cl cc X (classV n) w' (HCS.out w' h.1.2.2.1) (by omega))
                  rw [hc0] at IX
                  have q4 := HPz.out.cell 4 _ (by rw [HBV.out]; rfl)
                  have hg1 : decide (p + N < l.length) = true := by simpa using hql
                  have hg2 : decide ((p : Int) + N < l.length) = true := by simpa using (show (p : Int) + N < l.length by omega)
                  clear hsn hc0
                  go_wp2_with fail
                  go_quiet (first | (go_at_call 16; exact Calls.quiet_of_same (CX.out _)) | (go_at_call 33; exact Calls.quiet_of_same (IX.out _ (HPz.out.drewN _))) | (go_at_call 33; exact Calls.quiet_of_same (IX.out _ HPz.out)))
                  clear q4 CX IX
                  go_wp2_with fail
                  have HW := Lib.hid HPz.out
                  obtain ⟨a', c', hsl, hcl'⟩ := slice_mid l (some ⟨gr, 0, none⟩) c1 X p (p + N) wr HPz.out.1.2.1 (by omega) hNl
                  rw [Nat.add_sub_cancel_left] at hsl hcl'
                  have TX : Hid (∀ r w', PS l r X g cap (some ⟨gr, 0, none⟩) c1 B bv w w' → Calls Tryd.prog 29 #[.slice a' N c'] w' fun e w2 => e = .returned (.string T) ∧ PS l r X g cap (some ⟨gr, 0, none⟩) c1 B bv w w2) := Lib.hid (fun r w' h => by
                    have := text_any ((l.drop p).take N) a' N c' X w' (hcl' w' h.1.2.1) (fun n hn => HSG.out n (List.mem_of_mem_drop (List.mem_of_mem_take hn))) (by omega)
                    rw [← HT0.out] at this
                    exact this.mono (fun e w2 hh => ⟨hh.1, h.below hh.2⟩))
                  have RX : Hid (∀ w', PS l p X g cap (some ⟨gr, 0, none⟩) c1 B bv w w' → Calls Tryd.prog 27 #[.pointer (some ⟨X, 0, none⟩), .slice ca cl cc] w' fun e w2 => e = .returned (.string T) ∧ PS l (p + N) X g cap (some ⟨gr, 0, none⟩) c1 B bv w w2) := Lib.hid (fun w' h => by
                    have := run_any cs l p X g cap ca cl cc w' h.1.1 HSG.out (by omega) (HCS.out w' h.1.2.2.1) (by omega)
                    rw [← HN.out, show runT cs l p = T from by rw [HT0.out]; unfold runT tBytes; rw [← HN.out]] at this
                    exact this.mono (fun e w2 hm => h.moved hm))
                  clear hcl'
                  have hsl2 : ∀ w : World, (Instr.slice 23 (.slice (some ⟨gr, 0, none⟩) l.length c1) (some (.int .i64 p)) (some (.int .i64 ((p : Int) + N))) none).run Tryd.prog w = .ok (.slice a' N c') w := by
                    intro w
                    have := hsl w
                    rwa [show ((p + N : Nat) : Int) = (p : Int) + N from by omega] at this
                  have q4 := HPz.out.cell 4 _ (by rw [HBV.out]; rfl)
                  go_region_held3 (fun w' => w'.cell? ⟨B, 4, none⟩ = some (.slice ca cl cc)) (first | assumption | exact h3.cell 4 _ (by rw [HBV.out]; rfl) | exact h2.cell 4 _ (by rw [HBV.out]; rfl) | exact h1.cell 4 _ (by rw [HBV.out]; rfl)) (first
                    | (go_at_call 29; refine (TX.out (p + N) _ h1).mono ?_; rintro e w3 ⟨rfl, h3⟩)
                    | (go_at_call 27; refine (RX.out _ h2).mono ?_; rintro e w3 ⟨rfl, h3⟩)
                    | (go_at_call 27; refine (RX.out _ (HPz.out.drewN _)).mono ?_; rintro e w1 ⟨rfl, h1⟩)
                    | (go_at_call 29; refine (TX.out p _ (HPz.out.drewN _)).mono ?_; rintro e w2 ⟨rfl, h2⟩))
                  all_goals
                    have HP3 := Lib.hid h3
                    clear h3
                    go_wp2_with fail
                    refine (place_any l (p + N) X g cap _ HP3.out.1.1).mono ?_
                    rintro e wf ⟨rfl, rfl⟩
                    rw [show ((p + N : Nat) : Int) = (p : Int) + N from by omega]
                    go_wp2_with fail
                    go_roundw
                    case rel => exact ⟨k + 1, p + N, by omega, by omega, by go_num, by go_num, Lib.hid HP3.out.1⟩
                    case measure => simp [intOf]; omega

                · have hnl : decide (p + N < l.length) = false := by simpa using hql
                  have hnl2 : decide ((p : Int) + N < l.length) = false := by simpa using (show ¬ (p : Int) + N < l.length by omega)
                  go_wp2_with fail
                  go_quiet (fail)
                  go_wp2_with fail
                  have HW := Lib.hid HPz.out
                  obtain ⟨a', c', hsl, hcl'⟩ := slice_mid l a1 c1 X p (p + N) wr HPz.out.1.2.1 (by omega) hNl
                  rw [Nat.add_sub_cancel_left] at hsl hcl'
                  have TX : Hid (∀ r w', PS l r X g cap a1 c1 B bv w w' → Calls Tryd.prog 29 #[.slice a' N c'] w' fun e w2 => e = .returned (.string T) ∧ PS l r X g cap a1 c1 B bv w w2) := Lib.hid (fun r w' h => by
                    have := text_any ((l.drop p).take N) a' N c' X w' (hcl' w' h.1.2.1) (fun n hn => HSG.out n (List.mem_of_mem_drop (List.mem_of_mem_take hn))) (by omega)
                    rw [← HT0.out] at this
                    exact this.mono (fun e w2 hh => ⟨hh.1, h.below hh.2⟩))
                  have RX : Hid (∀ w', PS l p X g cap a1 c1 B bv w w' → Calls Tryd.prog 27 #[.pointer (some ⟨X, 0, none⟩), .slice ca cl cc] w' fun e w2 => e = .returned (.string T) ∧ PS l (p + N) X g cap a1 c1 B bv w w2) := Lib.hid (fun w' h => by
                    have := run_any cs l p X g cap ca cl cc w' h.1.1 HSG.out (by omega) (HCS.out w' h.1.2.2.1) (by omega)
                    rw [← HN.out, show runT cs l p = T from by rw [HT0.out]; unfold runT tBytes; rw [← HN.out]] at this
                    exact this.mono (fun e w2 hm => h.moved hm))
                  clear hcl'
                  have hsl2 : ∀ w : World, (Instr.slice 23 (.slice a1 l.length c1) (some (.int .i64 p)) (some (.int .i64 ((p : Int) + N))) none).run Tryd.prog w = .ok (.slice a' N c') w := by
                    intro w
                    have := hsl w
                    rwa [show ((p + N : Nat) : Int) = (p : Int) + N from by omega] at this
                  have q4 := HPz.out.cell 4 _ (by rw [HBV.out]; rfl)
                  go_region_held3 (fun w' => w'.cell? ⟨B, 4, none⟩ = some (.slice ca cl cc)) (first | assumption | exact h3.cell 4 _ (by rw [HBV.out]; rfl) | exact h2.cell 4 _ (by rw [HBV.out]; rfl) | exact h1.cell 4 _ (by rw [HBV.out]; rfl)) (first
                    | (go_at_call 29; refine (TX.out (p + N) _ h1).mono ?_; rintro e w3 ⟨rfl, h3⟩)
                    | (go_at_call 27; refine (RX.out _ h2).mono ?_; rintro e w3 ⟨rfl, h3⟩)
                    | (go_at_call 27; refine (RX.out _ (HPz.out.drewN _)).mono ?_; rintro e w1 ⟨rfl, h1⟩)
                    | (go_at_call 29; refine (TX.out p _ (HPz.out.drewN _)).mono ?_; rintro e w2 ⟨rfl, h2⟩))
                  all_goals
                    have HP3 := Lib.hid h3
                    clear h3
                    go_wp2_with fail
                    refine (place_any l (p + N) X g cap _ HP3.out.1.1).mono ?_
                    rintro e wf ⟨rfl, rfl⟩
                    rw [show ((p + N : Nat) : Int) = (p : Int) + N from by omega]
                    go_wp2_with fail
                    go_roundw
                    case rel => exact ⟨k + 1, p + N, by omega, by omega, by go_num, by go_num, Lib.hid HP3.out.1⟩
                    case measure => simp [intOf]; omega
        · as_aux_lemma =>
            obtain ⟨N, hN⟩ : ∃ N, N = ix sg (l.drop p) := ⟨_, rfl⟩
            have HN := Lib.hid hN
            have hNl : p + N ≤ l.length := by have := ix_le sg (l.drop p); rw [List.length_drop] at this; omega
            obtain ⟨T, hT⟩ : ∃ T, T = tBytes ((l.drop p).take N) := ⟨_, rfl⟩
            have HT0 := Lib.hid hT
            clear hN hT
            go_wp2_with fail
            rw [hk7]
            clear b0 b1 b2 b3 b4 hk7
            go_loopw [13] (fun v wr => ∃ q : Nat, p ≤ q ∧ q ≤ p + N ∧ v = .int .i64 q ∧ Hid (PS l p X g cap a1 c1 B bv w wr)) (fun v _ => l.length - (intOf v).toNat)
            case atStart => exact ⟨p, by omega, by omega, rfl, HPB⟩
            case round =>
              obtain ⟨q, hq1, hq2, rfl, HPz⟩ := hrel
              clear HPB
              have q3 := HPz.out.cell 3 _ (by rw [HBV.out]; rfl)
              by_cases hqN : q < p + N
              · have hql : q < l.length := by omega
                have hne : (l[q]'hql != sg) = true := by
                  have := ix_lt sg (l.drop p) (q - p) (by rw [List.length_drop]; omega) (by rw [← HN.out]; omega)
                  rw [List.getElem_drop] at this
                  have e : p + (q - p) = q := by omega
                  simp only [e] at this
                  simpa using this
                obtain ⟨gr, hgr, hgl, hrc⟩ := HPz.out.row q hql
                subst hgr
                have hsn := HPz.out.sign q hql
                generalize l[q] = n at hrc hsn hne
                have n0 : 0 ≤ n ∧ n ≤ 1114111 := by unfold SignP at hsn; omega
                obtain ⟨n0, n1⟩ := n0
                have hg1 : decide (q < l.length) = true := by simpa using hql
                have hg2 : decide ((q : Int) < l.length) = true := by simpa using (show (q : Int) < l.length by omega)
                clear hsn
                go_wp2_with fail
                go_quiet (fail)
                go_wp2_with fail
                go_roundw
                case rel => exact ⟨q + 1, by omega, by omega, by go_num, Lib.hid (HPz.out.drewN _)⟩
                case measure => simp [intOf]; omega
              · obtain rfl : q = p + N := by omega
                by_cases hql : p + N < l.length
                · have hne : l[p + N]'hql = sg := by
                    have := ix_at sg (l.drop p) (by rw [← HN.out, List.length_drop]; omega)
                    rw [List.getElem_drop] at this
                    simp only [← HN.out] at this
                    exact this
                  obtain ⟨gr, hgr, hgl, hrc⟩ := HPz.out.row (p + N) hql
                  subst hgr
                  rw [hne] at hrc
                  have hg1 : decide (p + N < l.length) = true := by simpa using hql
                  have hg2 : decide ((p : Int) + N < l.length) = true := by simpa using (show (p : Int) + N < l.length by omega)
                  clear hne
                  go_wp2_with fail
                  go_quiet (fail)
                  clear hrc q3
                  have q3 := (HPz.out.drewN nq).cell 3 _ (by rw [HBV.out]; rfl)
                  go_wp2_with fail
                  refine (until_yes l p X g cap sg _ (HPz.out.drewN nq).1.1 HSG.out (by omega) N HN.out hql).mono ?_
                  intro e w1 hm
                  obtain ⟨rfl, hp1⟩ := (HPz.out.drewN nq).moved hm
                  rw [← HT0.out]
                  have HP1 := Lib.hid hp1
                  obtain ⟨a', c', hsl, hcl'⟩ := slice_mid l (some ⟨gr, 0, none⟩) c1 X p (p + N) w1 HP1.out.1.2.1 (by omega) hNl
                  rw [Nat.add_sub_cancel_left] at hsl hcl'
                  have TX : Hid (∀ w', PS l (p + N + 1) X g cap (some ⟨gr, 0, none⟩) c1 B bv w w' → Calls Tryd.prog 29 #[.slice a' N c'] w' fun e w2 => e = .returned (.string T) ∧ PS l (p + N + 1) X g cap (some ⟨gr, 0, none⟩) c1 B bv w w2) := Lib.hid (fun w' h => by
                    have := text_any ((l.drop p).take N) a' N c' X w' (hcl' w' h.1.2.1) (fun n hn => HSG.out n (List.mem_of_mem_drop (List.mem_of_mem_take hn))) (by omega)
                    rw [← HT0.out] at this
                    exact this.mono (fun e w2 hh => ⟨hh.1, h.below hh.2⟩))
                  have hsl2 : ∀ w : World, (Instr.slice 23 (.slice (some ⟨gr, 0, none⟩) l.length c1) (some (.int .i64 p)) (some (.int .i64 ((p : Int) + N))) none).run Tryd.prog w = .ok (.slice a' N c') w := by
                    intro w
                    have := hsl w
                    rwa [show ((p + N : Nat) : Int) = (p : Int) + N from by omega] at this
                  clear hp1 hm hcl' q3 hsl
                  go_wp2_with fail
                  refine (TX.out _ HP1.out).mono ?_
                  rintro e w2 ⟨rfl, hp2⟩
                  have HP2 := Lib.hid hp2
                  clear hp2
                  go_wp2_with fail
                  refine (place_any l (p + N + 1) X g cap _ HP2.out.1.1).mono ?_
                  rintro e wf ⟨rfl, rfl⟩
                  rw [show ((p + N + 1 : Nat) : Int) = (p : Int) + N + 1 from by omega]
                  go_wp2_with fail
                  go_roundw
                  case rel => exact ⟨k + 1, p + N + 1, by omega, by omega, by go_num, by go_num, Lib.hid HP2.out.1⟩
                  case measure => simp [intOf]; omega

                · have hnl : decide (p + N < l.length) = false := by simpa using hql
                  have hnl2 : decide ((p : Int) + N < l.length) = false := by simpa using (show ¬ (p : Int) + N < l.length by omega)
                  go_wp2_with fail
                  go_quiet (fail)
                  clear q3
                  have q3 := (HPz.out.drewN nq).cell 3 _ (by rw [HBV.out]; rfl)
                  go_wp2_with fail
                  refine (until_no l p X g cap sg _ (HPz.out.drewN nq).1.1 (by omega) (by rw [← HN.out, List.length_drop]; omega)).mono ?_
                  intro e w1 hm
                  obtain ⟨rfl, hp1⟩ := (HPz.out.drewN nq).moved hm
                  have HP1 := Lib.hid hp1
                  clear hp1 hm q3
                  go_wp2_with fail
                  refine (place_any l (p) X g cap _ HP1.out.1.1).mono ?_
                  rintro e wf ⟨rfl, rfl⟩
                  go_wp2_with fail
                  go_roundw
                  case rel => exact ⟨k + 1, p, by omega, by omega, by go_num, by go_num, Lib.hid HP1.out.1⟩
                  case measure => simp [intOf]; omega
        · by_cases hn5 : 0 ≤ nn - 5 ∧ nn - 5 ≤ (l.length : Int)
          · as_aux_lemma =>
              obtain ⟨q, hq⟩ : ∃ q : Nat, (q : Int) = nn - 5 := ⟨(nn - 5).toNat, by omega⟩
              obtain rfl : nn = (q : Int) + 5 := by omega
              have hql : q ≤ l.length := by omega
              clear hq hn5
              go_wp2_with fail
              refine (back_yes l p q X g cap _ HPB.out.1.1 hql).mono ?_
              intro e w1 hm
              obtain ⟨rfl, hp1⟩ := HPB.out.moved hm
              have HP1 := Lib.hid hp1
              clear hp1 hm
              go_wp2_with fail
              refine (place_any l (q) X g cap _ HP1.out.1.1).mono ?_
              rintro e wf ⟨rfl, rfl⟩
              go_wp2_with fail
              go_roundw
              case rel => exact ⟨k + 1, q, by omega, by omega, by go_num, by go_num, Lib.hid HP1.out.1⟩
              case measure => simp [intOf]; omega
          · as_aux_lemma =>
              have hnb : nn - 5 < 0 ∨ (l.length : Int) < nn - 5 := by omega
              clear hn5
              rcases hnb with hnb | hnb
              · go_wp2_with fail
                refine (back_no l p X g cap (nn - 5) _ HPB.out.1.1 (.inl hnb)).mono ?_
                intro e w1 hm
                obtain ⟨rfl, hp1⟩ := HPB.out.moved hm
                have HP1 := Lib.hid hp1
                clear hp1 hm
                go_wp2_with fail
                refine (place_any l (p) X g cap _ HP1.out.1.1).mono ?_
                rintro e wf ⟨rfl, rfl⟩
                go_wp2_with fail
                go_roundw
                case rel => exact ⟨k + 1, p, by omega, by omega, by go_num, by go_num, Lib.hid HP1.out.1⟩
                case measure => simp [intOf]; omega
              · have hnb2 : decide (nn - 5 ≤ (l.length : Int)) = false := by simpa using (show ¬ nn - 5 ≤ (l.length : Int) by omega)
                go_wp2_with fail
                refine (back_no l p X g cap (nn - 5) _ HPB.out.1.1 (.inr hnb)).mono ?_
                intro e w1 hm
                obtain ⟨rfl, hp1⟩ := HPB.out.moved hm
                have HP1 := Lib.hid hp1
                clear hp1 hm
                go_wp2_with fail
                refine (place_any l (p) X g cap _ HP1.out.1.1).mono ?_
                rintro e wf ⟨rfl, rfl⟩
                go_wp2_with fail
                go_roundw
                case rel => exact ⟨k + 1, p, by omega, by omega, by go_num, by go_num, Lib.hid HP1.out.1⟩
                case measure => simp [intOf]; omega
        · by_cases hpl : p < l.length
          · as_aux_lemma =>
              obtain ⟨gr, hgr, hgl, hrc⟩ := HPB.out.row p hpl
              subst hgr
              have hsn := HPB.out.sign p hpl
              have PX := Lib.hid (peek_yes l p X g cap _ HPB.out.1.1 hpl (by omega))
              generalize l[p] = n at hrc PX hsn
              have n0 : 0 ≤ n ∧ n ≤ 1114111 := by unfold SignP at hsn; omega
              obtain ⟨n0, n1⟩ := n0
              have hpe : ((p : Int) == (l.length : Int)) = false := by rw [beq_eq_false_iff_ne]; omega
              clear hsn
              go_wp2_with fail
              refine PX.out.mono ?_
              rintro e w1 ⟨rfl, hb1⟩
              have HP1 := Lib.hid (HPB.out.below hb1)
              clear PX hrc hb1
              go_wp2_with fail
              refine (end_no l p X g cap _ HP1.out.1.1 hpl).mono ?_
              rintro e w2 ⟨rfl, hb2⟩
              have HP2 := Lib.hid (HP1.out.below hb2)
              clear hb2
              go_wp2_with fail
              refine (place_any l (p) X g cap _ HP2.out.1.1).mono ?_
              rintro e wf ⟨rfl, rfl⟩
              go_wp2_with fail
              go_roundw
              case rel => exact ⟨k + 1, p, by omega, by omega, by go_num, by go_num, Lib.hid HP2.out.1⟩
              case measure => simp [intOf]; omega
          · as_aux_lemma =>
              obtain rfl : p = l.length := by omega
              clear hpl
              go_wp2_with fail
              refine (peek_no l l.length X g cap _ HPB.out.1.1 rfl).mono ?_
              rintro e w1 ⟨rfl, hb1⟩
              have HP1 := Lib.hid (HPB.out.below hb1)
              clear hb1
              go_wp2_with fail
              refine (end_yes l l.length X g cap _ HP1.out.1.1 rfl).mono ?_
              rintro e w2 ⟨rfl, hb2⟩
              have HP2 := Lib.hid (HP1.out.below hb2)
              clear hb2
              go_wp2_with fail
              refine (place_any l (l.length) X g cap _ HP2.out.1.1).mono ?_
              rintro e wf ⟨rfl, rfl⟩
              go_wp2_with fail
              go_roundw
              case rel => exact ⟨k + 1, l.length, by omega, by omega, by go_num, by go_num, Lib.hid HP2.out.1⟩
              case measure => simp [intOf]; omega
      · go_wp2_with fail
        go_ret
        exact ⟨rfl, HP.out.2.2.1⟩
  · have NW := Lib.hid (fun w => new_bad s l (x :: r) w hr (by simp) (by omega))
    have SG := Lib.hid (fun w => signs_any s l (x :: r) w hr (by omega))
    clear hr
    go_enter Tryd.func10, Tryd.ntmps10
    go_wp2_with fail
    refine HA.out.mono ?_
    rintro e w1 ⟨rfl, hb1⟩
    go_wp2_with fail
    refine (SG.out _).mono ?_
    rintro e w2 ⟨a1, c1, rfl, ho, hb2⟩
    have HB := Lib.hid (hb1.trans (hb2.mono hb1.size))
    clear hb1 hb2 ho
    go_wp2_with fail
    refine (NW.out _).mono ?_
    rintro e w5 ⟨rfl, hb⟩
    replace HB := Lib.hid (HB.out.trans (hb.mono HB.out.size))
    clear hb
    go_wp2_with fail
    go_ret
    exact ⟨rfl, HB.out⟩
end Go.Proofs.YteicjmippeobpaaDoor
