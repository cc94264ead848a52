/- The contract of package term's Effective over this seat's program. -/
import Derived.Test.YteeajhnbifpklaaGreatDoorTmAwake
namespace Go.Proofs.YteeajhnbifpklaaGreatDoor
open Go Go.RowKit
set_option linter.unusedVariables false

set_option linter.unusedVariables false
def effV : Tm → Int
  | .lit s t l => if isStr t || isLang t then truthV (!s.toList.isEmpty) else if isInt t then (if aiE (.lit s t l) = 0 then truthV (aiN (.lit s t l) != 0) else 2) else (if abE (.lit s t l) = 0 then truthV (abV (.lit s t l)) else 2)
  | _ => 2
set_option maxRecDepth 100000 in
set_option maxHeartbeats 1600000 in
theorem eff_any (x : Tm) (w : World) (hz : Sized x) (hv : ErrV w) : Calls Tryz.prog 15 #[tmV x] w fun e w' => e = .returned (.int .u8 (effV x)) ∧ Below w.heap.size w w' := by
  cases x with
  | lit s t l =>
    have TX := ta_lit_Literal s t l
    have AI := Lib.hid (fun w hv => asint_any (.lit s t l) w hz hv)
    have AB := Lib.hid (fun w => asbool_any (.lit s t l) w)
    have HV := Lib.hid hv
    change Calls Tryz.prog 15 #[tmV (.lit s t l)] w fun e w' => e = .returned (.int .u8 (if isStr t || isLang t then truthV (!s.toList.isEmpty) else if isInt t then (if aiE (.lit s t l) = 0 then truthV (aiN (.lit s t l) != 0) else 2) else (if abE (.lit s t l) = 0 then truthV (abV (.lit s t l)) else 2))) ∧ Below w.heap.size w w'
    generalize aiE (.lit s t l) = ie at *
    generalize aiN (.lit s t l) = iN at *
    generalize abE (.lit s t l) = be at *
    generalize abV (.lit s t l) = bv at *
    clear hz hv
    obtain ⟨q1, h1⟩ : ∃ q, q = isStr t := ⟨_, rfl⟩
    obtain ⟨q2, h2⟩ : ∃ q, q = isLang t := ⟨_, rfl⟩
    obtain ⟨q3, h3⟩ : ∃ q, q = isInt t := ⟨_, rfl⟩
    rw [← h1, ← h2, ← h3]
    unfold isStr xStringB at h1
    unfold isLang xLangL at h2
    unfold isInt xIntB at h3
    replace h1 := h1.symm
    replace h2 := h2.symm
    replace h3 := h3.symm
    change ∀ w, (Instr.typeAssert (tmV (.lit s t l)) _ _ true).run Tryz.prog w = _ at TX
    generalize tmV (.lit s t l) = vx at *
    cases q1 with
    | true =>
      rw [if_pos (by simp)]
      cases he : s.toList.isEmpty with
      | true =>
        have he2 : s.toList = [] := List.isEmpty_iff.1 he
        simp only [Bool.not_true]
        have HB : Hid (Below w.heap.size w (w.alloc (.cells #[.string s, .string t, .string l] 53))) := Lib.hid (by go_grown)
        go_enter Tryz.func15, Tryz.ntmps15
        go_wp2_with fail
        refine (vof_any false _).mono ?_
        rintro e w' ⟨rfl, rfl⟩
        go_wp2_with fail
        go_ret
        exact ⟨rfl, HB.out⟩
      | false =>
        have he2 : ¬ s.toList = [] := fun h => by rw [h] at he; cases he
        simp only [Bool.not_false]
        have HB : Hid (Below w.heap.size w (w.alloc (.cells #[.string s, .string t, .string l] 53))) := Lib.hid (by go_grown)
        go_enter Tryz.func15, Tryz.ntmps15
        go_wp2_with fail
        refine (vof_any true _).mono ?_
        rintro e w' ⟨rfl, rfl⟩
        go_wp2_with fail
        go_ret
        exact ⟨rfl, HB.out⟩
    | false =>
      cases q2 with
      | true =>
        rw [if_pos (by simp)]
        cases he : s.toList.isEmpty with
        | true =>
          have he2 : s.toList = [] := List.isEmpty_iff.1 he
          simp only [Bool.not_true]
          have HB : Hid (Below w.heap.size w (w.alloc (.cells #[.string s, .string t, .string l] 53))) := Lib.hid (by go_grown)
          go_enter Tryz.func15, Tryz.ntmps15
          go_wp2_with fail
          refine (vof_any false _).mono ?_
          rintro e w' ⟨rfl, rfl⟩
          go_wp2_with fail
          go_ret
          exact ⟨rfl, HB.out⟩
        | false =>
          have he2 : ¬ s.toList = [] := fun h => by rw [h] at he; cases he
          simp only [Bool.not_false]
          have HB : Hid (Below w.heap.size w (w.alloc (.cells #[.string s, .string t, .string l] 53))) := Lib.hid (by go_grown)
          go_enter Tryz.func15, Tryz.ntmps15
          go_wp2_with fail
          refine (vof_any true _).mono ?_
          rintro e w' ⟨rfl, rfl⟩
          go_wp2_with fail
          go_ret
          exact ⟨rfl, HB.out⟩
      | false =>
        cases q3 with
        | true =>
          rw [if_neg (by simp), if_pos rfl]
          by_cases h0 : ie = 0
          · subst h0
            rw [if_pos rfl]
            obtain ⟨D, hD⟩ : ∃ D, D = (iN != 0) := ⟨_, rfl⟩
            rw [← hD]
            have HD := Lib.hid hD
            clear hD
            have HB : Hid (Below w.heap.size w (w.alloc (.cells #[.string s, .string t, .string l] 53))) := Lib.hid (by go_grown)
            go_enter Tryz.func15, Tryz.ntmps15
            go_wp2_with fail
            refine (AI.out _ (HV.out.below HB.out)).mono ?_
            rintro e w2 ⟨rfl, hb2⟩
            replace HB := Lib.hid (HB.out.trans (hb2.mono HB.out.size))
            go_wp2_with fail
            rw [← HD.out]
            refine (vof_any D _).mono ?_
            rintro e w' ⟨rfl, rfl⟩
            go_wp2_with fail
            go_ret
            exact ⟨rfl, HB.out⟩
          · rw [if_neg h0]
            have h2 : (ie != 0) = true := by simpa using h0
            clear h0
            have HB : Hid (Below w.heap.size w (w.alloc (.cells #[.string s, .string t, .string l] 53))) := Lib.hid (by go_grown)
            go_enter Tryz.func15, Tryz.ntmps15
            go_wp2_with fail
            refine (AI.out _ (HV.out.below HB.out)).mono ?_
            rintro e w2 ⟨rfl, hb2⟩
            replace HB := Lib.hid (HB.out.trans (hb2.mono HB.out.size))
            go_wp2_with fail
            go_ret
            exact ⟨rfl, HB.out⟩
        | false =>
          rw [if_neg (by simp), if_neg (by simp)]
          by_cases h0 : be = 0
          · subst h0
            rw [if_pos rfl]
            have HB : Hid (Below w.heap.size w (w.alloc (.cells #[.string s, .string t, .string l] 53))) := Lib.hid (by go_grown)
            go_enter Tryz.func15, Tryz.ntmps15
            go_wp2_with fail
            refine (AB.out _).mono ?_
            rintro e w2 ⟨rfl, hb2⟩
            replace HB := Lib.hid (HB.out.trans (hb2.mono HB.out.size))
            go_wp2_with fail
            refine (vof_any bv _).mono ?_
            rintro e w' ⟨rfl, rfl⟩
            go_wp2_with fail
            go_ret
            exact ⟨rfl, HB.out⟩
          · rw [if_neg h0]
            have h2 : (be != 0) = true := by simpa using h0
            clear h0
            have HB : Hid (Below w.heap.size w (w.alloc (.cells #[.string s, .string t, .string l] 53))) := Lib.hid (by go_grown)
            go_enter Tryz.func15, Tryz.ntmps15
            go_wp2_with fail
            refine (AB.out _).mono ?_
            rintro e w2 ⟨rfl, hb2⟩
            replace HB := Lib.hid (HB.out.trans (hb2.mono HB.out.size))
            go_wp2_with fail
            go_ret
            exact ⟨rfl, HB.out⟩
  | blank s =>
    have TX := ta_blank_Literal s
    show Calls Tryz.prog 15 #[tmV (.blank s)] w fun e w' => e = .returned (.int .u8 2) ∧ Below w.heap.size w w'
    change ∀ w, (Instr.typeAssert (tmV (.blank s)) _ _ true).run Tryz.prog w = _ at TX
    generalize tmV (.blank s) = vx at *
    go_enter Tryz.func15, Tryz.ntmps15
    go_wp2_with fail
    go_ret
    exact ⟨rfl, by go_grown⟩
  | iri s =>
    have TX := ta_iri_Literal s
    show Calls Tryz.prog 15 #[tmV (.iri s)] w fun e w' => e = .returned (.int .u8 2) ∧ Below w.heap.size w w'
    change ∀ w, (Instr.typeAssert (tmV (.iri s)) _ _ true).run Tryz.prog w = _ at TX
    generalize tmV (.iri s) = vx at *
    go_enter Tryz.func15, Tryz.ntmps15
    go_wp2_with fail
    go_ret
    exact ⟨rfl, by go_grown⟩
  | odd n =>
    have TX := ta_odd_Literal n
    show Calls Tryz.prog 15 #[tmV (.odd n)] w fun e w' => e = .returned (.int .u8 2) ∧ Below w.heap.size w w'
    change ∀ w, (Instr.typeAssert (tmV (.odd n)) _ _ true).run Tryz.prog w = _ at TX
    generalize tmV (.odd n) = vx at *
    go_enter Tryz.func15, Tryz.ntmps15
    go_wp2_with fail
    go_ret
    exact ⟨rfl, by go_grown⟩
  | none =>
    have TX := ta_none_Literal
    show Calls Tryz.prog 15 #[tmV (.none)] w fun e w' => e = .returned (.int .u8 2) ∧ Below w.heap.size w w'
    change ∀ w, (Instr.typeAssert (tmV (.none)) _ _ true).run Tryz.prog w = _ at TX
    generalize tmV (.none) = vx at *
    go_enter Tryz.func15, Tryz.ntmps15
    go_wp2_with fail
    go_ret
    exact ⟨rfl, by go_grown⟩
end Go.Proofs.YteeajhnbifpklaaGreatDoor
