/- The contract of the document's Effective over this seat's program. Every term (texts up to 6000 bytes). -/
import Derived.Test.YteeajhnbifpklaaGreatDoorRfTerm
import Derived.Test.YteeajhnbifpklaaGreatDoorTmEffZ
import Derived.Test.YteeajhnbifpklaaGreatDoorTgGood
namespace Go.Proofs.YteeajhnbifpklaaGreatDoor
open Go Go.RowKit
set_option linter.unusedVariables false
set_option linter.unusedSimpArgs false
set_option maxRecDepth 100000
theorem len_zero {ds : List Int} {N : Int} (hg : Good ds) (hn : Norm ds) (hv : val ds = szV N) : ds.length = 0 ↔ N = 0 := by
  constructor
  · intro h
    obtain rfl := List.eq_nil_of_length_eq_zero h
    have : szV N = 0 := by rw [← hv]; rfl
    exact (sz_zero N).1 this
  · intro h
    rw [h] at hv
    rw [val_nil hg hn (by rw [hv]; rfl)]; rfl
theorem lit_of_kind {X : Tm} (h : kindV X = 2) : X = .lit (text0 X) (text1 X) (text2 X) := by
  obtain ⟨s, t, l, rfl⟩ := kind_lit h
  rfl
set_option maxHeartbeats 6400000 in
theorem reff_any (X : Tm) (w : World) (hz : (text0 X).size ≤ 6000) : Calls Tryz.prog 16 #[rV X] w fun e w' => e = .returned (.int .i64 (effV X)) ∧ Below w.heap.size w w' := by
  by_cases hk : kindV X = 2
  · have AX := Lib.hid (fun w => rasint_any X w hz)
    have BX := Lib.hid (fun w => rasbool_any X w)
    obtain ⟨s, t, l, rfl⟩ := kind_lit hk
    unfold RaRes at AX
    show Calls Tryz.prog 16 #[.agg #[.int .i64 2, .string s, .string t, .string l]] w fun e w' => e = .returned (.int .i64 (if isStr t || isLang t then truthV (!s.toList.isEmpty) else if isInt t then (if aiE (.lit s t l) = 0 then truthV (aiN (.lit s t l) != 0) else 2) else (if abE (.lit s t l) = 0 then truthV (abV (.lit s t l)) else 2))) ∧ Below w.heap.size w w'
    have hbe : isBool t = false → abE (.lit s t l) = 10 := fun h => by show (if isBool t then _ else (10 : Int)) = 10; rw [h]; rfl
    change Hid (∀ w, Calls Tryz.prog 10 #[.agg #[.int .i64 2, .string s, .string t, .string l]] w _) at AX
    change Hid (∀ w, Calls Tryz.prog 11 #[.agg #[.int .i64 2, .string s, .string t, .string l]] w _) at BX
    generalize aiN (.lit s t l) = N at *
    generalize aiE (.lit s t l) = E at *
    generalize abV (.lit s t l) = V at *
    generalize abE (.lit s t l) = EB at *
    clear hk hz
    unfold isStr isInt isLang xStringB xIntB xLangL
    unfold isBool xBoolB at hbe
    cases h1 : t.toList == [104, 116, 116, 112, 58, 47, 47, 119, 119, 119, 46, 119, 51, 46, 111, 114, 103, 47, 50, 48, 48, 49, 47, 88, 77, 76, 83, 99, 104, 101, 109, 97, 35, 115, 116, 114, 105, 110, 103] with
    | true =>
      rw [Bool.true_or, if_pos rfl]
      cases hE : s.toList.isEmpty with
      | true =>
        obtain rfl := empty_of hE
        clear hE hbe
        go_enter Tryz.func16, Tryz.ntmps16
        go_wp2_with fail
        go_ret
        exact ⟨rfl, by go_grown⟩
      | false =>
        have hE2 := nonempty_of hE
        clear hbe
        go_enter Tryz.func16, Tryz.ntmps16
        go_wp2_with fail
        go_ret
        exact ⟨rfl, by go_grown⟩
    | false =>
      rw [Bool.false_or]
      cases h2 : t.toList == [104, 116, 116, 112, 58, 47, 47, 119, 119, 119, 46, 119, 51, 46, 111, 114, 103, 47, 49, 57, 57, 57, 47, 48, 50, 47, 50, 50, 45, 114, 100, 102, 45, 115, 121, 110, 116, 97, 120, 45, 110, 115, 35, 108, 97, 110, 103, 83, 116, 114, 105, 110, 103] with
      | true =>
        rw [if_pos rfl]
        cases hE : s.toList.isEmpty with
        | true =>
          obtain rfl := empty_of hE
          clear hE hbe
          go_enter Tryz.func16, Tryz.ntmps16
          go_wp2_with fail
          go_ret
          exact ⟨rfl, by go_grown⟩
        | false =>
          have hE2 := nonempty_of hE
          clear hbe
          go_enter Tryz.func16, Tryz.ntmps16
          go_wp2_with fail
          go_ret
          exact ⟨rfl, by go_grown⟩
      | false =>
        rw [if_neg (by simp)]
        cases h3 : t.toList == [104, 116, 116, 112, 58, 47, 47, 119, 119, 119, 46, 119, 51, 46, 111, 114, 103, 47, 50, 48, 48, 49, 47, 88, 77, 76, 83, 99, 104, 101, 109, 97, 35, 105, 110, 116, 101, 103, 101, 114] with
        | true =>
          rw [if_pos rfl]
          clear hbe
          by_cases he : E = 0
          · rw [if_pos he]
            subst he
            by_cases hN : N = 0
            · rw [show (N != 0) = false by simp [hN]]
              go_enter Tryz.func16, Tryz.ntmps16
              go_wp2_with fail
              refine (AX.out _).mono ?_
              rintro e w1 ⟨b, rfl, hv1, hb1⟩
              obtain ⟨p, q, ds, rfl, _, _, _, hg, hn, hvl⟩ := big_parts hv1
              have HDS : Hid (ds.length = 0 ↔ N = 0) := Lib.hid (len_zero hg hn hvl)
              have HZ : Hid (Below w.heap.size w w1) := Lib.hid (((Below.refl w.heap.size w).alloc (Nat.le_refl _) _).trans (hb1.mono (by simp)))
              clear hv1 hb1 hg hn hvl
              have hds : ((ds.length : Int) == 0) = true := by rw [beq_iff_eq]; have := HDS.out.2 hN; omega
              clear hN
              go_wp2_with fail
              go_ret
              exact ⟨rfl, HZ.out.alloc HZ.out.size _⟩
            · rw [show (N != 0) = true by simpa using hN]
              go_enter Tryz.func16, Tryz.ntmps16
              go_wp2_with fail
              refine (AX.out _).mono ?_
              rintro e w1 ⟨b, rfl, hv1, hb1⟩
              obtain ⟨p, q, ds, rfl, _, _, _, hg, hn, hvl⟩ := big_parts hv1
              have HDS : Hid (ds.length = 0 ↔ N = 0) := Lib.hid (len_zero hg hn hvl)
              have HZ : Hid (Below w.heap.size w w1) := Lib.hid (((Below.refl w.heap.size w).alloc (Nat.le_refl _) _).trans (hb1.mono (by simp)))
              clear hv1 hb1 hg hn hvl
              have hds : ((ds.length : Int) == 0) = false := by rw [beq_eq_false_iff_ne]; intro h; exact hN (HDS.out.1 (by omega))
              clear hN
              go_wp2_with fail
              go_ret
              exact ⟨rfl, HZ.out.alloc HZ.out.size _⟩
          · rw [if_neg he]
            have he2 : (E != 0) = true := by simpa using he
            clear he
            go_enter Tryz.func16, Tryz.ntmps16
            go_wp2_with fail
            refine (AX.out _).mono ?_
            rintro e w1 ⟨b, rfl, hv1, hb1⟩
            obtain ⟨p, q, ds, rfl, _, _, _, hg, hn, hvl⟩ := big_parts hv1
            have HDS : Hid (ds.length = 0 ↔ N = 0) := Lib.hid (len_zero hg hn hvl)
            have HZ : Hid (Below w.heap.size w w1) := Lib.hid (((Below.refl w.heap.size w).alloc (Nat.le_refl _) _).trans (hb1.mono (by simp)))
            clear hv1 hb1 hg hn hvl
            go_wp2_with fail
            go_ret
            exact ⟨rfl, HZ.out.alloc HZ.out.size _⟩
        | false =>
          rw [if_neg (by simp)]
          cases h4 : t.toList == [104, 116, 116, 112, 58, 47, 47, 119, 119, 119, 46, 119, 51, 46, 111, 114, 103, 47, 50, 48, 48, 49, 47, 88, 77, 76, 83, 99, 104, 101, 109, 97, 35, 98, 111, 111, 108, 101, 97, 110] with
          | true =>
            clear hbe
            by_cases he : EB = 0
            · rw [if_pos he]
              subst he
              cases V with
              | true =>
                go_enter Tryz.func16, Tryz.ntmps16
                go_wp2_with fail
                refine (BX.out _).mono ?_
                rintro e w1 ⟨rfl, hb1⟩
                have HZ : Hid (Below w.heap.size w w1) := Lib.hid (((Below.refl w.heap.size w).alloc (Nat.le_refl _) _).trans (hb1.mono (by simp)))
                clear hb1
                go_wp2_with fail
                go_ret
                exact ⟨rfl, HZ.out⟩
              | false =>
                go_enter Tryz.func16, Tryz.ntmps16
                go_wp2_with fail
                refine (BX.out _).mono ?_
                rintro e w1 ⟨rfl, hb1⟩
                have HZ : Hid (Below w.heap.size w w1) := Lib.hid (((Below.refl w.heap.size w).alloc (Nat.le_refl _) _).trans (hb1.mono (by simp)))
                clear hb1
                go_wp2_with fail
                go_ret
                exact ⟨rfl, HZ.out⟩
            · rw [if_neg he]
              have he2 : (EB != 0) = true := by simpa using he
              clear he
              go_enter Tryz.func16, Tryz.ntmps16
              go_wp2_with fail
              refine (BX.out _).mono ?_
              rintro e w1 ⟨rfl, hb1⟩
              have HZ : Hid (Below w.heap.size w w1) := Lib.hid (((Below.refl w.heap.size w).alloc (Nat.le_refl _) _).trans (hb1.mono (by simp)))
              clear hb1
              go_wp2_with fail
              go_ret
              exact ⟨rfl, HZ.out⟩
          | false =>
            rw [hbe h4, if_neg (by omega)]
            clear hbe
            go_enter Tryz.func16, Tryz.ntmps16
            go_wp2_with fail
            go_ret
            exact ⟨rfl, by go_grown⟩
  · have hx : effV X = 2 := by
      cases X with
      | lit s t l => exact absurd rfl hk
      | _ => rfl
    rw [hx]
    unfold rV
    generalize kindV X = k at *
    generalize text0 X = s at *
    generalize text1 X = t at *
    generalize text2 X = l at *
    have h2 : (k != 2) = true := by simpa using hk
    clear hk hx hz
    go_enter Tryz.func16, Tryz.ntmps16
    go_wp2_with fail
    go_ret
    exact ⟨rfl, by go_grown⟩
end Go.Proofs.YteeajhnbifpklaaGreatDoor
