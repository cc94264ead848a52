/- Contracts over this seat's program: package term's lang; the document's lang. Every text (up to a megabyte). -/
import Derived.Test.YtghimladdioajaaTgLab
namespace Go.Proofs.Ytghimladdioajaa
open Go Go.RowKit
set_option linter.unusedVariables false
set_option linter.unusedSimpArgs false
set_option maxRecDepth 100000
/-- the library's own variable holds some number -/
def MaxV (w : World) : Prop := ∃ m, w.cell? ⟨0, 0, none⟩ = some (.int .i64 m)
theorem MaxV.below {w w' : World} (h : MaxV w) (hb : Below w.heap.size w w') : MaxV w' := let ⟨m, h⟩ := h; ⟨m, cell_below h hb⟩
theorem langS_step (pb : Bool) (lg : Nat) (L : List UInt8) (q : Nat) (c : UInt8) (h : L.drop q = c :: L.drop (q + 1)) :
    langS pb lg (L.drop q) = if bI c = 45 then (if lg = 0 then false else langS true 0 (L.drop (q + 1))) else if okP (!pb) c then (if 8 < lg + 1 then false else langS pb (lg + 1) (L.drop (q + 1))) else false := by
  conv => lhs; rw [h]
  rfl
set_option maxHeartbeats 12800000 in
theorem rlang_any (s : ByteArray) (w : World) (hs : s.size ≤ 1000000) : Calls Try.prog 44 #[.string s] w fun e w' => e = .returned (.bool (langV s.data.toList)) ∧ w = w' := by
  obtain ⟨R, hR⟩ : ∃ R, R = langV s.data.toList := ⟨_, rfl⟩
  rw [← hR]
  have HR0 := Lib.hid hR
  clear hR
  have hlen : s.data.toList.length = s.size := (Lib.size_eq s).symm
  have HL := Lib.hid hlen
  clear hlen
  by_cases h1 : s.size < 1
  · have HR : Hid (R = false) := Lib.hid (by
      rw [HR0.out]; unfold langV
      have : s.data.toList = [] := List.eq_nil_of_length_eq_zero (by rw [HL.out]; omega)
      rw [this]; rfl)
    have h2 : (s.size : Int) < 1 := by omega
    clear h1 hs
    go_enter Try.func44, Try.ntmps44
    go_wp2_with fail
    go_ret
    exact ⟨by rw [HR.out]; rfl, rfl⟩
  · by_cases h3 : 40 < s.size
    · have HR : Hid (R = false) := Lib.hid (by rw [HR0.out]; unfold langV; rw [decide_eq_false (show ¬ s.data.toList.length ≤ 40 by rw [HL.out]; omega)]; rfl)
      have h2 : ¬ (s.size : Int) < 1 := by omega
      have h4 : (40 : Int) < s.size := by omega
      clear h1 h3 hs
      go_enter Try.func44, Try.ntmps44
      go_wp2_with fail
      go_ret
      exact ⟨by rw [HR.out]; rfl, rfl⟩
    · have h2 : ¬ (s.size : Int) < 1 := by omega
      have h4 : ¬ (40 : Int) < s.size := by omega
      go_enter Try.func44, Try.ntmps44
      go_wp2_with fail
      go_loop [3, 4, 5] (fun x y z => ∃ (q : Nat) (P : Int) (lg : Nat) (pb : Bool), q ≤ s.size ∧ 0 ≤ P ∧ P ≤ q ∧ lg ≤ 8 ∧ x = .int .i64 P ∧ y = .int .i64 lg ∧ z = .int .i64 q ∧ Hid (pb = decide (P ≠ 0)) ∧ Hid (langS false 0 s.data.toList = langS pb lg (s.data.toList.drop q))) (fun _ _ z => s.size - (intOf z).toNat)
      case atStart => exact ⟨0, 0, 0, false, by omega, by omega, by omega, by omega, rfl, rfl, rfl, Lib.hid rfl, Lib.hid rfl⟩
      case round =>
        obtain ⟨q, P, lg, pb, hq, P0, P1, hlg, rfl, rfl, rfl, HP, HS⟩ := hrel
        by_cases hlt : q < s.size
        · have HD := Lib.hid (drop_at s q hlt)
          have hc8 : (s[q]'hlt).toNat < 256 := (s[q]'hlt).toNat_lt
          have LC := Lib.hid (fun w => rletter_any (bI (s[q]'hlt)) w (by unfold bI; omega) (by unfold bI; omega))
          have DC := Lib.hid (fun w => rdigit_any (bI (s[q]'hlt)) w (by unfold bI; omega) (by unfold bI; omega))
          have b1 : (q : Int) < s.size := by omega
          by_cases h45 : bI (s[q]'hlt) = 45
          · have g45 : (((s[q]'hlt).toNat : Int) == 45) = true := by unfold bI at h45; rw [h45]; rfl
            by_cases hl0 : lg = 0
            · have HR : Hid (R = false) := Lib.hid (by rw [HR0.out]; unfold langV; rw [HS.out, langS_step _ _ _ _ _ HD.out, if_pos h45, if_pos hl0]; simp)
              have g0 : ((lg : Int) == 0) = true := by rw [hl0]; rfl
              clear hl0 h45
              go_wp2_with fail
              go_ret
              exact ⟨by rw [HR.out]; rfl, rfl⟩
            · have g0 : ((lg : Int) == 0) = false := beq_eq_false_iff_ne.mpr (by omega)
              have HS2 : Hid (langS false 0 s.data.toList = langS true 0 (s.data.toList.drop (q + 1))) := Lib.hid (by rw [HS.out, langS_step _ _ _ _ _ HD.out, if_pos h45, if_neg hl0])
              have HP2 : Hid (true = decide (P + 1 ≠ 0)) := Lib.hid (by rw [decide_eq_true (by omega)])
              clear hl0 h45
              go_wp2_with fail
              go_round
              case rel => exact ⟨q + 1, P + 1, 0, true, by omega, by omega, by omega, by omega, by first | rfl | go_num, by first | rfl | go_num, by go_num, HP2, HS2⟩
              case measure => simp [intOf]; omega
          · have g45 : (((s[q]'hlt).toNat : Int) == 45) = false := beq_eq_false_iff_ne.mpr h45
            obtain ⟨p1, hp1⟩ : ∃ p, p = lowI (bI (s[q]'hlt)) := ⟨_, rfl⟩
            obtain ⟨p2, hp2⟩ : ∃ p, p = digI (bI (s[q]'hlt)) := ⟨_, rfl⟩
            have hok : okP (!pb) (s[q]'hlt) = (p1 || (!(!pb) && p2)) := by rw [hp1, hp2]; rfl
            rw [← hp1] at LC
            rw [← hp2] at DC
            clear hp1 hp2
            unfold bI at LC DC
            cases p1 with
            | true =>
              have ho : okP (!pb) (s[q]'hlt) = true := by rw [hok]; rfl
              clear hok
              by_cases h8 : 8 < lg + 1
              · have HR : Hid (R = false) := Lib.hid (by rw [HR0.out]; unfold langV; rw [HS.out, langS_step _ _ _ _ _ HD.out, if_neg h45, ho, if_pos rfl, if_pos h8]; simp)
                have g8 : (8 : Int) < (lg : Int) + 1 := by omega
                clear h8 h45 ho
                go_wp2_with fail
                refine (LC.out _).mono ?_
                rintro e w' ⟨rfl, rfl⟩
                go_wp2_with fail
                go_ret
                exact ⟨by rw [HR.out]; rfl, rfl⟩
              · have HS2 : Hid (langS false 0 s.data.toList = langS pb (lg + 1) (s.data.toList.drop (q + 1))) := Lib.hid (by rw [HS.out, langS_step _ _ _ _ _ HD.out, if_neg h45, ho, if_pos rfl, if_neg h8])
                have g8 : ¬ (8 : Int) < (lg : Int) + 1 := by omega
                clear h45 ho
                go_wp2_with fail
                refine (LC.out _).mono ?_
                rintro e w' ⟨rfl, rfl⟩
                go_wp2_with fail
                go_round
                case rel => exact ⟨q + 1, P, lg + 1, pb, by omega, by omega, by omega, by omega, rfl, by go_num, by go_num, HP, HS2⟩
                case measure => simp [intOf]; omega
            | false =>
              by_cases hP : P = 0
              · have hpb : pb = false := by rw [HP.out, hP]; rfl
                have ho : okP (!pb) (s[q]'hlt) = false := by rw [hok, hpb]; rfl
                have HR : Hid (R = false) := Lib.hid (by rw [HR0.out]; unfold langV; rw [HS.out, langS_step _ _ _ _ _ HD.out, if_neg h45, ho]; simp)
                have gP : (P == 0) = true := by rw [hP]; rfl
                clear ho hok hpb hP h45
                go_wp2_with fail
                refine (LC.out _).mono ?_
                rintro e w' ⟨rfl, rfl⟩
                go_wp2_with fail
                go_ret
                exact ⟨by rw [HR.out]; rfl, rfl⟩
              · have hpb : pb = true := by rw [HP.out]; exact decide_eq_true hP
                have gP : (P == 0) = false := beq_eq_false_iff_ne.mpr hP
                cases p2 with
                | true =>
                  have ho : okP (!pb) (s[q]'hlt) = true := by rw [hok, hpb]; rfl
                  clear hok hpb hP
                  by_cases h8 : 8 < lg + 1
                  · have HR : Hid (R = false) := Lib.hid (by rw [HR0.out]; unfold langV; rw [HS.out, langS_step _ _ _ _ _ HD.out, if_neg h45, ho, if_pos rfl, if_pos h8]; simp)
                    have g8 : (8 : Int) < (lg : Int) + 1 := by omega
                    clear h8 h45 ho
                    go_wp2_with fail
                    refine (LC.out _).mono ?_
                    rintro e w' ⟨rfl, rfl⟩
                    go_wp2_with fail
                    refine (DC.out _).mono ?_
                    rintro e w' ⟨rfl, rfl⟩
                    go_wp2_with fail
                    go_ret
                    exact ⟨by rw [HR.out]; rfl, rfl⟩
                  · have HS2 : Hid (langS false 0 s.data.toList = langS pb (lg + 1) (s.data.toList.drop (q + 1))) := Lib.hid (by rw [HS.out, langS_step _ _ _ _ _ HD.out, if_neg h45, ho, if_pos rfl, if_neg h8])
                    have g8 : ¬ (8 : Int) < (lg : Int) + 1 := by omega
                    clear h45 ho
                    go_wp2_with fail
                    refine (LC.out _).mono ?_
                    rintro e w' ⟨rfl, rfl⟩
                    go_wp2_with fail
                    refine (DC.out _).mono ?_
                    rintro e w' ⟨rfl, rfl⟩
                    go_wp2_with fail
                    go_round
                    case rel => exact ⟨q + 1, P, lg + 1, pb, by omega, by omega, by omega, by omega, rfl, by go_num, by go_num, HP, HS2⟩
                    case measure => simp [intOf]; omega
                | false =>
                  have ho : okP (!pb) (s[q]'hlt) = false := by rw [hok, hpb]; rfl
                  have HR : Hid (R = false) := Lib.hid (by rw [HR0.out]; unfold langV; rw [HS.out, langS_step _ _ _ _ _ HD.out, if_neg h45, ho]; simp)
                  clear ho hok hpb hP h45
                  go_wp2_with fail
                  refine (LC.out _).mono ?_
                  rintro e w' ⟨rfl, rfl⟩
                  go_wp2_with fail
                  refine (DC.out _).mono ?_
                  rintro e w' ⟨rfl, rfl⟩
                  go_wp2_with fail
                  go_ret
                  exact ⟨by rw [HR.out]; rfl, rfl⟩
        · have hall : langS false 0 s.data.toList = decide (0 < lg) := by rw [HS.out, List.drop_eq_nil_of_le (by rw [← Lib.size_eq]; omega)]; rfl
          have HR : Hid (R = decide (0 < lg)) := Lib.hid (by rw [HR0.out]; unfold langV; rw [hall, decide_eq_true (show s.data.toList.length ≤ 40 by rw [HL.out]; omega)]; rfl)
          clear hall
          go_wp2_with fail
          go_ret
          exact ⟨ret_bool (by first | exact HR.out.symm | (rw [HR.out]; simp)), rfl⟩
theorem pieces_len (s : ByteArray) : (Lib.splitB dashB 0 (Lib.countB s dashB) s).length = Lib.countB s dashB + 1 := Lib.splitB_all dashB (by decide) 0 _ s rfl
set_option maxHeartbeats 12800000 in
theorem lang_any (s : ByteArray) (w : World) (hs : s.size ≤ 1000000) (hmv : MaxV w) : Calls Try.prog 77 #[.string s] w fun e w' => e = .returned (.bool (langV s.data.toList)) ∧ Below w.heap.size w w' := by
  obtain ⟨R, hR⟩ : ∃ R, R = langV s.data.toList := ⟨_, rfl⟩
  rw [← hR]
  have HR0 := Lib.hid hR
  clear hR
  have hlen : s.data.toList.length = s.size := (Lib.size_eq s).symm
  have HL := Lib.hid hlen
  clear hlen
  by_cases h3 : 40 < s.size
  · have HR : Hid (R = false) := Lib.hid (by rw [HR0.out]; unfold langV; rw [decide_eq_false (show ¬ s.data.toList.length ≤ 40 by rw [HL.out]; omega)]; rfl)
    have h4 : (40 : Int) < s.size := by omega
    clear h3 hs hmv
    go_enter Try.func77, Try.ntmps77
    go_wp2_with fail
    go_ret
    exact ⟨by rw [HR.out]; rfl, Below.refl _ _⟩
  · have h4 : ¬ (40 : Int) < s.size := by omega
    obtain ⟨m, hm⟩ := hmv
    have SP : Hid (Calls Try.prog 82 #[.string s, .string ⟨#[45]⟩] w fun e w' => e = .returned (.slice (some ⟨w.heap.size, 0, none⟩) (Lib.countB s dashB + 1) (Lib.countB s dashB + 1)) ∧ w' = w.alloc (.cells ((Lib.splitB dashB 0 (Lib.countB s dashB) s).map Value.string).toArray 9)) :=
      Lib.hid (Try.strings_Split s dashB m w (by omega) hm (by decide))
    have hPL := pieces_len s
    have hPS := split_spl s
    have hcb := Lib.countB_le dashB (by decide) s.size s (Nat.le_refl _)
    generalize Lib.splitB dashB 0 (Lib.countB s dashB) s = PS at *
    obtain ⟨n, hn⟩ : ∃ n, n = Lib.countB s dashB + 1 := ⟨_, rfl⟩
    rw [← hn] at SP hPL
    have hn41 : n ≤ 41 := by omega
    have hn1 : 1 ≤ n := by omega
    have HPL := Lib.hid hPL
    have HPS := Lib.hid hPS
    clear hm hn hcb hPL hPS h3
    go_enter Try.func77, Try.ntmps77
    go_wp2_with fail
    refine SP.out.mono ?_
    rintro e w1 ⟨rfl, hw1⟩
    have HC : Hid (∀ k (hk : k < n), w1.cell? ⟨w.heap.size, k, none⟩ = some (.string (PS[k]'(by rw [HPL.out]; exact hk)))) := Lib.hid (fun k hk => by
      rw [hw1]
      have : k < PS.length := by rw [HPL.out]; exact hk
      simp [go_sem, this])
    have HB1 : Hid (Below w.heap.size w w1) := Lib.hid (by rw [hw1]; exact (Below.refl _ _).alloc (Nat.le_refl _) _)
    have hsz1 : w1.heap.size = w.heap.size + 1 := by rw [hw1]; simp
    have HZ1 := Lib.hid hsz1
    clear hw1 hsz1 SP
    go_wp2_with fail
    go_loopw [13] (fun i wr => ∃ k : Nat, k ≤ n ∧ i = .int .i64 k ∧ Hid (langP true (spl s.data.toList) = langP (decide (k = 0)) ((spl s.data.toList).drop k)) ∧ Below w1.heap.size w1 wr) (fun i _ => n - (intOf i).toNat)
    case atStart => exact ⟨0, by omega, rfl, Lib.hid rfl, Below.refl _ _⟩
    case round =>
      obtain ⟨k, hk, rfl, HSO, hb⟩ := hrel
      have HBW : Hid (Below w.heap.size w wr) := Lib.hid (HB1.out.trans (hb.mono HB1.out.size))
      have hszr : w.heap.size + 1 ≤ wr.heap.size := by have := hb.size; rw [HZ1.out] at this; exact this
      by_cases hlt : k < n
      · have hkl : k < PS.length := by rw [HPL.out]; exact hlt
        have c0 : wr.cell? ⟨w.heap.size, k, none⟩ = some (.string (PS[k]'hkl)) := cell_below (HC.out k hlt) hb
        have HPD0 : (spl s.data.toList).drop k = (PS[k]'hkl).data.toList :: (spl s.data.toList).drop (k + 1) := by
          have h1 : k < (spl s.data.toList).length := by rw [← HPS.out]; simpa using hkl
          rw [List.drop_eq_getElem_cons h1]
          congr 1
          simp only [← HPS.out, List.getElem_map]
        have HPD := Lib.hid HPD0
        clear HPD0
        obtain ⟨x, hx⟩ : ∃ x, x = PS[k]'hkl := ⟨_, rfl⟩
        rw [← hx] at HPD c0
        clear hx hkl
        obtain ⟨f, hf⟩ : ∃ f, f = decide (k = 0) := ⟨_, rfl⟩
        rw [← hf] at HSO
        have HF := Lib.hid hf
        clear hf
        have hxl : x.data.toList.length = x.size := (Lib.size_eq x).symm
        have HXL := Lib.hid hxl
        have b1 : (k : Int) < n := by omega
        by_cases h0 : x.size = 0
        · have HRF : Hid (R = false) := Lib.hid (by rw [HR0.out]; unfold langV; rw [langS_all, HSO.out, HPD.out]; show (_ && (pieceOK f x.data.toList && _)) = false; unfold pieceOK; rw [decide_eq_false (show ¬ 1 ≤ x.data.toList.length by rw [HXL.out]; omega)]; simp)
          have hx0 : x = ⟨#[]⟩ := by obtain ⟨⟨l⟩⟩ := x; obtain rfl : l = [] := List.eq_nil_of_length_eq_zero h0; rfl
          subst hx0
          clear h0 hxl hb
          go_wp2_with fail
          go_ret
          exact ⟨by rw [HRF.out]; rfl, HBW.out⟩
        · have he : x.toList.isEmpty = false := by rw [Lib.toList_data, List.isEmpty_eq_false_iff]; intro h; rw [h] at hxl; simp at hxl; omega
          have he2 : (x.toList == []) = false := by
            cases hh : x.toList with
            | nil => rw [hh] at he; cases he
            | cons => rfl
          by_cases h8 : 8 < x.size
          · have HRF : Hid (R = false) := Lib.hid (by rw [HR0.out]; unfold langV; rw [langS_all, HSO.out, HPD.out]; show (_ && (pieceOK f x.data.toList && _)) = false; unfold pieceOK; rw [decide_eq_false (show ¬ x.data.toList.length ≤ 8 by rw [HXL.out]; omega)]; simp)
            have g8 : (8 : Int) < x.size := by omega
            clear h0 hxl hb h8
            go_wp2_with fail
            go_ret
            exact ⟨by rw [HRF.out]; rfl, HBW.out⟩
          · have g8 : ¬ (8 : Int) < x.size := by omega
            have HSIZ : Hid (x.size ≠ 0 ∧ x.size ≤ 8) := Lib.hid ⟨h0, by omega⟩
            have HWR := Lib.hid hb
            clear h0 hxl h8 hb
            go_wp2_with fail
            obtain ⟨wo, rfl⟩ : ∃ wo : World, wo = wr := ⟨_, rfl⟩
            obtain ⟨B2, hB2⟩ : ∃ B2, B2 = wo.heap.size := ⟨_, rfl⟩
            have HB2E := Lib.hid hB2
            have hat : Below wo.heap.size wo (wo.iter x 0) := (Below.refl _ wo).alloc (Nat.le_refl _) _
            have hih := World.iter_heap wo x 0
            rw [← hB2] at hih hat
            have HAT := Lib.hid hat
            have HIH := Lib.hid hih
            rw [← hB2]
            clear hat hih hB2
            go_loopw [] (fun wr => ∃ q : Nat, q ≤ x.size ∧ Hid (x.data.toList.all (okP f) = (x.data.toList.drop q).all (okP f)) ∧ wr.heap[B2]? = some (.stringIter x q) ∧ Below B2 wo wr) (fun wr => x.size - wr.iterPos B2)
            case atStart => exact ⟨0, by omega, Lib.hid rfl, HIH.out, HAT.out⟩
            case round =>
              obtain ⟨q, hq, HS, hit, hbi⟩ := hrel
              by_cases hltq : q < x.size
              · have HD := Lib.hid (drop_at x q hltq)
                obtain ⟨c, hc⟩ : ∃ c, c = x[q]'hltq := ⟨_, rfl⟩
                rw [← hc] at HD
                obtain ⟨v, kk, hdec, hvb, hpl, hcl, hv⟩ := dec_pl x q c _ HD.out
                have hnx : ∀ ty, (Instr.next (.pointer (some ⟨B2, 0, none⟩)) true ty).run Try.prog wr = _ := fun ty => Lib.run_next_any_at wr B2 x q ty hit hltq
                rw [hdec] at hnx
                have PC := Lib.hid (fun w => plainc_any v w (by omega) (by omega))
                have CC := Lib.hid (fun w => class_any v w (by omega) (by omega))
                have hm : x.size - wr.iterPos B2 = x.size - q := by simp [World.iterPos, hit]
                have HM := Lib.hid hm
                have hhi : 128 ≤ bI c → isPl v = false := fun h => by rw [hpl, (low_hi h).1, (low_hi h).2]; rfl
                have hok : okP f c = (lowI (bI c) || (!f && digI (bI c))) := rfl
                rw [← hcl] at hok hpl
                obtain ⟨cv, hcv⟩ : ∃ cv, cv = classV v := ⟨_, rfl⟩
                rw [← hcv] at CC hok hpl
                obtain ⟨p, hp⟩ : ∃ p, p = isPl v := ⟨_, rfl⟩
                rw [← hp] at PC hhi hpl
                obtain ⟨d, hd⟩ : ∃ d, d = digI (bI c) := ⟨_, rfl⟩
                rw [← hd] at hok hpl
                clear hc hdec hp hm hcl hcv hd
                cases p with
                | false =>
                  have ho : okP f c = false := by
                    rw [hok]
                    have h := Bool.or_eq_false_iff.1 hpl.symm
                    rw [h.1, h.2]; simp
                  have HRF : Hid (R = false) := Lib.hid (by rw [HR0.out]; unfold langV; rw [langS_all, HSO.out, HPD.out]; show (_ && (pieceOK f x.data.toList && _)) = false; unfold pieceOK; rw [HS.out, HD.out, List.all_cons, ho]; simp)
                  have HBN : Hid (Below w.heap.size w (wr.iterAt B2 x (q + kk))) := Lib.hid (HBW.out.trans ((Lib.below_iterAt hbi (k := B2) (Nat.le_refl _) x (q + kk)).mono (by rw [HB2E.out]; exact HBW.out.size)))
                  clear hbi hit
                  clear hv hhi hok hpl ho
                  go_wp2_with fail
                  refine (PC.out _).mono ?_
                  rintro e w' ⟨rfl, rfl⟩
                  go_wp2_with fail
                  go_ret
                  exact ⟨by rw [HRF.out]; rfl, HBN.out⟩
                | true =>
                  obtain ⟨b2, b3⟩ : (v : Int) = bI c ∧ kk = 1 := by
                    rcases hv with h | h
                    · exact ⟨h.2.1, h.2.2⟩
                    · exact absurd (hhi h.1) (by simp)
                  subst b3
                  clear b2 hv hhi
                  by_cases hk0 : k = 0
                  · have hft : f = true := by rw [HF.out, hk0]; rfl
                    have gk : ((k : Int) == 0) = true := by rw [hk0]; rfl
                    by_cases h1 : cv = 1
                    · have ho : okP f c = true := by rw [hok, decide_eq_true h1]; rfl
                      have gc : (cv != 1) = false := by rw [h1]; rfl
                      have HS2 : Hid (x.data.toList.all (okP f) = (x.data.toList.drop (q + 1)).all (okP f)) := Lib.hid (by rw [HS.out, HD.out, List.all_cons, ho, Bool.true_and])
                      have hit2 := Lib.iterAt_heap wr B2 x q (q + 1) hit
                      have HIt := Lib.hid hit2
                      have hm2 : x.size - (wr.iterAt B2 x (q + 1)).iterPos B2 = x.size - (q + 1) := by simp [World.iterPos, hit2]
                      have HM2 := Lib.hid hm2
                      have HB2 := Lib.hid (Lib.below_iterAt hbi (k := B2) (Nat.le_refl _) x (q + 1))
                      clear hm2 hit2 hbi hit
                      clear hok hpl ho h1 hk0 hft
                      go_wp2_with fail
                      refine (PC.out _).mono ?_
                      rintro e w' ⟨rfl, rfl⟩
                      go_wp2_with fail
                      refine (CC.out _).mono ?_
                      rintro e w' ⟨rfl, rfl⟩
                      go_wp2_with fail
                      go_roundw
                      case rel => exact ⟨q + 1, by omega, HS2, HIt.out, HB2.out⟩
                      case measure => rw [HM.out, HM2.out]; omega
                    · have ho : okP f c = false := by rw [hok, decide_eq_false h1, hft]; rfl
                      have gc : (cv != 1) = true := by simpa using h1
                      have HRF : Hid (R = false) := Lib.hid (by rw [HR0.out]; unfold langV; rw [langS_all, HSO.out, HPD.out]; show (_ && (pieceOK f x.data.toList && _)) = false; unfold pieceOK; rw [HS.out, HD.out, List.all_cons, ho]; simp)
                      have HBN : Hid (Below w.heap.size w (wr.iterAt B2 x (q + 1))) := Lib.hid (HBW.out.trans ((Lib.below_iterAt hbi (k := B2) (Nat.le_refl _) x (q + 1)).mono (by rw [HB2E.out]; exact HBW.out.size)))
                      clear hbi hit
                      clear hok hpl ho h1 hk0 hft
                      go_wp2_with fail
                      refine (PC.out _).mono ?_
                      rintro e w' ⟨rfl, rfl⟩
                      go_wp2_with fail
                      refine (CC.out _).mono ?_
                      rintro e w' ⟨rfl, rfl⟩
                      go_wp2_with fail
                      go_ret
                      exact ⟨by rw [HRF.out]; rfl, HBN.out⟩
                  · have hft : f = false := by rw [HF.out, decide_eq_false hk0]
                    have gk : ((k : Int) == 0) = false := beq_eq_false_iff_ne.mpr (by omega)
                    have ho : okP f c = true := by rw [hok, hft, hpl]; simp
                    have HS2 : Hid (x.data.toList.all (okP f) = (x.data.toList.drop (q + 1)).all (okP f)) := Lib.hid (by rw [HS.out, HD.out, List.all_cons, ho, Bool.true_and])
                    have hit2 := Lib.iterAt_heap wr B2 x q (q + 1) hit
                    have HIt := Lib.hid hit2
                    have hm2 : x.size - (wr.iterAt B2 x (q + 1)).iterPos B2 = x.size - (q + 1) := by simp [World.iterPos, hit2]
                    have HM2 := Lib.hid hm2
                    have HB2 := Lib.hid (Lib.below_iterAt hbi (k := B2) (Nat.le_refl _) x (q + 1))
                    clear hm2 hit2 hbi hit
                    clear hok hpl ho hk0 hft
                    go_wp2_with fail
                    refine (PC.out _).mono ?_
                    rintro e w' ⟨rfl, rfl⟩
                    go_wp2_with fail
                    go_roundw
                    case rel => exact ⟨q + 1, by omega, HS2, HIt.out, HB2.out⟩
                    case measure => rw [HM.out, HM2.out]; omega
              · have hnx : ∀ ty, (Instr.next (.pointer (some ⟨B2, 0, none⟩)) true ty).run Try.prog wr = _ := fun ty => Lib.run_next_end_at wr B2 x q ty hit hltq
                have hall : x.data.toList.all (okP f) = true := by rw [HS.out, List.drop_eq_nil_of_le (by rw [← Lib.size_eq]; omega)]; rfl
                have HSN : Hid (langP true (spl s.data.toList) = langP (decide (k + 1 = 0)) ((spl s.data.toList).drop (k + 1))) := Lib.hid (by
                  rw [HSO.out, HPD.out]
                  show (pieceOK f x.data.toList && _) = _
                  have h := HSIZ.out
                  unfold pieceOK
                  rw [hall, decide_eq_true (show 1 ≤ x.data.toList.length by rw [HXL.out]; omega), decide_eq_true (show x.data.toList.length ≤ 8 by rw [HXL.out]; omega)]
                  rfl)
                have HBN : Hid (Below w1.heap.size w1 wr) := Lib.hid (HWR.out.trans (hbi.mono (by rw [HB2E.out]; exact HWR.out.size)))
                clear hall hbi hit
                go_wp2_with fail
                go_roundw
                case rel => exact ⟨k + 1, by omega, by go_num, HSN, HBN.out⟩
                case measure => simp [intOf]; omega
      · have hall : langP true (spl s.data.toList) = true := by rw [HSO.out, List.drop_eq_nil_of_le (by rw [← HPS.out, List.length_map, HPL.out]; omega)]; rfl
        have HR : Hid (R = true) := Lib.hid (by rw [HR0.out]; unfold langV; rw [langS_all, hall, decide_eq_true (show s.data.toList.length ≤ 40 by rw [HL.out]; omega)]; rfl)
        clear hall hb
        go_wp2_with fail
        go_ret
        exact ⟨by rw [HR.out]; rfl, HBW.out⟩
end Go.Proofs.Ytghimladdioajaa
