/- Contracts over this seat's program: IRI's Good; the document's iri. Every text (up to a megabyte). -/
import Derived.Test.YtghimladdioajaaTgRune
namespace Go.Proofs.Ytghimladdioajaa
open Go Go.RowKit
set_option linter.unusedVariables false
set_option linter.unusedSimpArgs false
set_option maxRecDepth 100000
/-- a sign that may stand in an IRI -/
def okR (n : Int) : Bool := (classV n != 0) && ((classV n != 4) && !(forbL.contains n))
def iriV (s : ByteArray) (l : List Int) (r : List UInt8) : Bool := decide (s.size ≤ 4096) && (decide (1 ≤ Lib.indexByte s.data.toList 58) && (r.isEmpty && l.all okR))
theorem okR_no {n : Int} (h : okR n = false) : classV n = 0 ∨ (classV n ≠ 0 ∧ classV n = 4) ∨ (classV n ≠ 0 ∧ classV n ≠ 4 ∧ forbL.contains n = true) := by
  unfold okR at h
  by_cases h0 : classV n = 0
  · exact .inl h0
  · by_cases h4 : classV n = 4
    · exact .inr (.inl ⟨h0, h4⟩)
    · refine .inr (.inr ⟨h0, h4, ?_⟩)
      have e0 : (classV n != 0) = true := by simpa using h0
      have e4 : (classV n != 4) = true := by simpa using h4
      rw [e0, e4] at h
      simpa using h
theorem okR_yes {n : Int} (h : okR n = true) : classV n ≠ 0 ∧ classV n ≠ 4 ∧ forbL.contains n = false := by
  unfold okR at h
  simp only [Bool.and_eq_true, bne_iff_ne, Bool.not_eq_true'] at h
  exact h
theorem all_step (l : List Int) (k : Nat) (hk : k < l.length) : (l.drop k).all okR = (okR (l[k]'hk) && (l.drop (k + 1)).all okR) := by
  rw [List.drop_eq_getElem_cons hk, List.all_cons]
set_option maxHeartbeats 6400000 in
theorem iri_any (s : ByteArray) (l : List Int) (r : List UInt8) (w : World) (h : Read s.data.toList l r) (hs : s.size ≤ 1000000) :
    Calls Try.prog 76 #[.agg #[.string s]] w fun e w' => e = .returned (.bool (iriV s l r)) ∧ Below w.heap.size w w' := by
  obtain ⟨R, hR⟩ : ∃ R, R = iriV s l r := ⟨_, rfl⟩
  rw [← hR]
  have HR0 := Lib.hid hR
  have HR := Lib.hid h
  have HG := Lib.hid (fun w => good_any s l r w h (by omega))
  have hll : l.length ≤ s.size := read_len h
  obtain ⟨I, hI⟩ : ∃ I, I = Lib.indexByte s.data.toList 58 := ⟨_, rfl⟩
  have HI : Hid (∀ w, Calls Try.prog 79 #[.string s, .int .u8 58] w fun e w' => e = .returned (.int .i64 I) ∧ w' = w) := Lib.hid (fun w => by rw [hI]; exact Try.strings_IndexByte s 58 w)
  have HIE := Lib.hid hI
  clear h hI hR
  by_cases hbig : 4096 < s.size
  · have HRF : Hid (R = false) := Lib.hid (by rw [HR0.out]; unfold iriV; rw [decide_eq_false (by omega)]; rfl)
    have g1 : (4096 : Int) < s.size := by omega
    clear hbig hs
    go_enter Try.func76, Try.ntmps76
    go_wp2_with fail
    go_ret
    exact ⟨by rw [HRF.out]; rfl, by go_grown⟩
  · have g1 : ¬ (4096 : Int) < s.size := by omega
    by_cases hi : I < 1
    · have HRF : Hid (R = false) := Lib.hid (by rw [HR0.out]; unfold iriV; rw [← HIE.out, decide_eq_false (show ¬ 1 ≤ I by omega)]; simp)
      clear hbig hs
      go_enter Try.func76, Try.ntmps76
      go_wp2_with fail
      refine (HI.out _).mono ?_
      rintro e w' ⟨rfl, rfl⟩
      go_wp2_with fail
      go_ret
      exact ⟨by rw [HRF.out]; rfl, by go_grown⟩
    · have hi1 : ¬ I < 1 := hi
      cases hre : r.isEmpty with
      | false =>
        have HRF : Hid (R = false) := Lib.hid (by rw [HR0.out]; unfold iriV; rw [hre]; simp)
        rw [hre] at HG
        clear hbig hs hre
        go_enter Try.func76, Try.ntmps76
        go_wp2_with fail
        refine (HI.out _).mono ?_
        rintro e w' ⟨rfl, rfl⟩
        go_wp2_with fail
        refine (HG.out _).mono ?_
        rintro e w1 ⟨rfl, hb1⟩
        have HB : Hid (Below w.heap.size w w1) := Lib.hid (((Below.refl _ _).alloc (Nat.le_refl _) _).trans (hb1.mono (by simp)))
        clear hb1
        go_wp2_with fail
        go_ret
        exact ⟨by rw [HRF.out]; rfl, HB.out⟩
      | true =>
        obtain rfl : r = [] := List.isEmpty_iff.1 hre
        have HRV : Hid (R = l.all okR) := Lib.hid (by rw [HR0.out]; unfold iriV; rw [← HIE.out, decide_eq_true (show s.size ≤ 4096 by omega), decide_eq_true (show 1 ≤ I by omega)]; rfl)
        clear hbig hs hre
        go_enter Try.func76, Try.ntmps76
        go_wp2_with fail
        refine (HI.out _).mono ?_
        rintro e w' ⟨rfl, rfl⟩
        go_wp2_with fail
        refine (HG.out _).mono ?_
        rintro e w1 ⟨rfl, hb1⟩
        have c0 : w1.cell? ⟨w.heap.size, 0, none⟩ = some (.string s) := cell_below (by simp [go_sem]) hb1
        have hbw : Below w.heap.size w w1 := ((Below.refl w.heap.size w).alloc (Nat.le_refl _) _).trans (hb1.mono (by simp))
        have HB := Lib.hid hbw
        clear hb1 hbw HI HG
        go_wp2_with fail
        go_loopw [] (fun wr => ∃ (k q : Nat), k ≤ l.length ∧ q ≤ s.size ∧ Hid (q = (textB (l.take k)).length) ∧ Hid (l.all okR = (l.drop k).all okR) ∧ wr.heap[w1.heap.size]? = some (.stringIter s q) ∧ Below w.heap.size w wr)
          (fun wr => s.size - wr.iterPos w1.heap.size)
        case atStart => exact ⟨0, 0, by omega, by omega, Lib.hid rfl, Lib.hid rfl, World.iter_heap w1 s 0, HB.out.alloc HB.out.size _⟩
        case round =>
          obtain ⟨k, q, hk, hq, HQ, HA, hit, hb⟩ := hrel
          have hsz : w.heap.size ≤ w1.heap.size := HB.out.size
          by_cases hlt : q < s.size
          · have hnx : ∀ ty, (Instr.next (.pointer (some ⟨w1.heap.size, 0, none⟩)) true ty).run Try.prog wr = _ := fun ty => Lib.run_next_any_at wr w1.heap.size s q ty hit hlt
            have hk' : k < l.length := by
              rcases Nat.lt_or_ge k l.length with h | h
              · exact h
              · obtain rfl : k = l.length := by omega
                exact absurd rfl (rest_ne HR.out HQ.out hlt)
            rw [decode_here HR.out hk' HQ.out] at hnx
            have hn := (read_here HR.out hk').1
            have hit2 := Lib.iterAt_heap wr w1.heap.size s q (q + (enc (l[k]'hk')).length) hit
            have hbw2 := Lib.below_iterAt hb (k := w1.heap.size) hsz s (q + (enc (l[k]'hk')).length)
            have HN : Hid (q + (enc (l[k]'hk')).length = (textB (l.take (k + 1))).length) := Lib.hid (by rw [read_next HR.out hk', ← HQ.out])
            have hle : q + (enc (l[k]'hk')).length ≤ s.size := by have := read_le HR.out (k + 1); rw [← HN.out] at this; exact this
            have hpos := enc_pos (l[k]'hk')
            have HST := Lib.hid (all_step l k hk')
            have hn0 : (((l[k]'hk').toNat : Nat) : Int) = l[k]'hk' := by unfold SignP at hn; omega
            rw [hn0] at hnx
            clear hn0
            generalize l[k]'hk' = n at hnx hit2 hbw2 HN hle hpos hn HST
            have HB2 := Lib.hid hbw2
            have HIt := Lib.hid hit2
            have hm : s.size - wr.iterPos w1.heap.size = s.size - q := by simp [World.iterPos, hit]
            have hm2 : s.size - (wr.iterAt w1.heap.size s (q + (enc n).length)).iterPos w1.heap.size = s.size - (q + (enc n).length) := by simp [World.iterPos, hit2]
            have HM := Lib.hid hm
            have CL := Lib.hid (fun w => class_any n w (by unfold SignP at hn; omega) (by unfold SignP at hn; omega))
            have CR := Lib.hid (fun w => crune_all n w hn)
            obtain ⟨c, hc⟩ : ∃ c, c = classV n := ⟨_, rfl⟩
            cases ho : okR n with
            | true =>
              obtain ⟨n2, n3, n4⟩ := okR_yes ho
              have HA2 : Hid (l.all okR = (l.drop (k + 1)).all okR) := Lib.hid (by rw [HA.out, HST.out, ho, Bool.true_and])
              rw [n4] at CR
              rw [← hc] at CL n2 n3
              have c2 : (c == 0) = false := beq_eq_false_iff_ne.mpr n2
              have c3 : (c == 4) = false := beq_eq_false_iff_ne.mpr n3
              have HIP := Lib.hid hm2
              clear hm hm2 hit2 hbw2 hb hit n4 hc n2 n3 ho hn
              go_wp2_with fail
              refine (CL.out _).mono ?_
              rintro e w' ⟨rfl, rfl⟩
              go_wp2_with fail
              refine (CR.out _).mono ?_
              rintro e w3 ⟨rfl, hb3⟩
              have hlt2 : w1.heap.size < (wr.iterAt w1.heap.size s (q + (enc n).length)).heap.size := by
                have := HIt.out
                rcases Nat.lt_or_ge w1.heap.size (wr.iterAt w1.heap.size s (q + (enc n).length)).heap.size with h | h
                · exact h
                · rw [Array.getElem?_eq_none h] at this; cases this
              have HIt3 : Hid (w3.heap[w1.heap.size]? = some (.stringIter s (q + (enc n).length))) := Lib.hid ((hb3.block _ hlt2).trans HIt.out)
              have HM3 : Hid (s.size - w3.iterPos w1.heap.size = s.size - (q + (enc n).length)) := Lib.hid (by simp [World.iterPos, HIt3.out])
              have HB3 := Lib.hid (HB2.out.trans (hb3.mono HB2.out.size))
              clear hb3 hlt2
              go_wp2_with fail
              go_roundw
              case rel => exact ⟨k + 1, q + (enc n).length, by omega, hle, HN, HA2, HIt3.out, HB3.out⟩
              case measure => rw [HM.out, HM3.out]; omega
            | false =>
              have HRF : Hid (R = false) := Lib.hid (by rw [HRV.out, HA.out, HST.out, ho]; rfl)
              rcases okR_no ho with h0 | ⟨h0, h4⟩ | ⟨h0, h4, h5⟩
              · rw [h0] at CL
                clear hm hm2 hit2 hbw2 hb hit hc ho hn
                go_wp2_with fail
                refine (CL.out _).mono ?_
                rintro e w' ⟨rfl, rfl⟩
                go_wp2_with fail
                go_ret
                exact ⟨by rw [HRF.out]; rfl, HB2.out⟩
              · rw [h4] at CL
                clear hm hm2 hit2 hbw2 hb hit hc ho hn
                go_wp2_with fail
                refine (CL.out _).mono ?_
                rintro e w' ⟨rfl, rfl⟩
                go_wp2_with fail
                go_ret
                exact ⟨by rw [HRF.out]; rfl, HB2.out⟩
              · rw [h5] at CR
                rw [← hc] at CL h0 h4
                have c2 : (c == 0) = false := beq_eq_false_iff_ne.mpr h0
                have c3 : (c == 4) = false := beq_eq_false_iff_ne.mpr h4
                clear hm hm2 hit2 hbw2 hb hit hc ho hn h0 h4 h5
                go_wp2_with fail
                refine (CL.out _).mono ?_
                rintro e w' ⟨rfl, rfl⟩
                go_wp2_with fail
                refine (CR.out _).mono ?_
                rintro e w3 ⟨rfl, hb3⟩
                have HB3 := Lib.hid (HB2.out.trans (hb3.mono HB2.out.size))
                clear hb3
                go_wp2_with fail
                go_ret
                exact ⟨by rw [HRF.out]; rfl, HB3.out⟩
          · have hnx : ∀ ty, (Instr.next (.pointer (some ⟨w1.heap.size, 0, none⟩)) true ty).run Try.prog wr = _ := fun ty => Lib.run_next_end_at wr w1.heap.size s q ty hit hlt
            have hkl : k = l.length := (rest_none HR.out hk HQ.out (by omega)).1
            have HRT : Hid (R = true) := Lib.hid (by rw [HRV.out, HA.out, hkl, List.drop_length]; rfl)
            clear hkl
            go_wp2_with fail
            go_ret
            exact ⟨by rw [HRT.out]; rfl, hb⟩
end Go.Proofs.Ytghimladdioajaa
