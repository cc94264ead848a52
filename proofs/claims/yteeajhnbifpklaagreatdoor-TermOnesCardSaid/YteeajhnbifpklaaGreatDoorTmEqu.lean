/- The contract of package term's Equal over this seat's program. Every two terms (texts up to a megabyte). -/
import Derived.Test.YteeajhnbifpklaaGreatDoorTmEqual
namespace Go.Proofs.YteeajhnbifpklaaGreatDoor
open Go Go.RowKit
set_option linter.unusedVariables false
def isLit : Tm → Bool
  | .lit _ _ _ => true
  | _ => false
def lit0 : Tm → ByteArray
  | .lit s _ _ => s
  | _ => ⟨#[]⟩
def lit1 : Tm → ByteArray
  | .lit _ t _ => t
  | _ => ⟨#[]⟩
def lit2 : Tm → ByteArray
  | .lit _ _ l => l
  | _ => ⟨#[]⟩
theorem ta_lit (x : Tm) (w : World) : (Instr.typeAssert (tmV x) 28 53 true).run Tryz.prog w = .ok (.tuple #[.agg #[.string (lit0 x), .string (lit1 x), .string (lit2 x)], .bool (isLit x)]) w := by
  cases x with
  | blank s => exact ta_blank_Literal s w
  | iri s => exact ta_iri_Literal s w
  | lit s t l => exact ta_lit_Literal s t l w
  | odd n => exact ta_odd_Literal n w
  | none => exact ta_none_Literal w
/-- of one value: 0 not, 1 it is, 2 neither -/
def equalV (x y : Tm) : Int :=
  if eqT x y then 1 else if isLit x && isLit y then
    (if isInt (lit1 x) && isInt (lit1 y) then bothI x y else if isBool (lit1 x) && isBool (lit1 y) then bothB x y else if !knownV (lit1 x) || !knownV (lit1 y) then 2 else 0)
  else 0
set_option maxRecDepth 100000 in
set_option maxHeartbeats 6400000 in
theorem equal_any (x y : Tm) (w : World) (hx : Sized x) (hy : Sized y) (hv : ErrV w) :
    Calls Tryz.prog 21 #[tmV x, tmV y] w fun e w' => e = .returned (.int .u8 (equalV x y)) ∧ Below w.heap.size w w' := by
  have TX := ta_lit x
  have TY := ta_lit y
  have SX := Lib.hid (same_any x y)
  have BI := Lib.hid (fun w hv => bothint_any x y w hx hy hv)
  have BB := Lib.hid (fun w => bothbool_any x y w)
  have K1 := Lib.hid (known_any (lit1 x))
  have K2 := Lib.hid (known_any (lit1 y))
  have HV := Lib.hid hv
  unfold equalV
  obtain ⟨i1, hi1⟩ : ∃ i, i = isInt (lit1 x) := ⟨_, rfl⟩
  obtain ⟨i2, hi2⟩ : ∃ i, i = isInt (lit1 y) := ⟨_, rfl⟩
  obtain ⟨b1, hb1⟩ : ∃ i, i = isBool (lit1 x) := ⟨_, rfl⟩
  obtain ⟨b2, hb2⟩ : ∃ i, i = isBool (lit1 y) := ⟨_, rfl⟩
  rw [← hi1, ← hi2, ← hb1, ← hb2]
  generalize knownV (lit1 x) = k1 at *
  generalize knownV (lit1 y) = k2 at *
  generalize bothI x y = rI at *
  generalize bothB x y = rB at *
  generalize eqT x y = q at *
  generalize isLit x = o1 at *
  generalize isLit y = o2 at *
  unfold isInt xIntB at hi1 hi2
  unfold isBool xBoolB at hb1 hb2
  generalize lit0 x = a0 at *
  generalize lit1 x = a1 at *
  generalize lit2 x = a2 at *
  generalize lit0 y = c0 at *
  generalize lit1 y = c1 at *
  generalize lit2 y = c2 at *
  generalize tmV x = vx at *
  generalize tmV y = vy at *
  clear hx hy hv
  have HB : Hid (Below w.heap.size w ((w.alloc (.cells #[.string a0, .string a1, .string a2] 53)).alloc (.cells #[.string c0, .string c1, .string c2] 53))) := Lib.hid (by go_grown)
  cases q with
  | true =>
    rw [if_pos rfl]
    clear hi1 hi2 hb1 hb2
    go_enter Tryz.func21, Tryz.ntmps21
    go_wp2_with fail
    refine (SX.out _).mono ?_
    rintro e w' ⟨rfl, rfl⟩
    go_wp2_with fail
    go_ret
    exact ⟨rfl, HB.out⟩
  | false =>
    rw [if_neg (by simp)]
    cases o1 with
    | false =>
      rw [Bool.false_and, if_neg (by simp)]
      clear hi1 hi2 hb1 hb2
      go_enter Tryz.func21, Tryz.ntmps21
      go_wp2_with fail
      refine (SX.out _).mono ?_
      rintro e w' ⟨rfl, rfl⟩
      go_wp2_with fail
      go_ret
      exact ⟨rfl, HB.out⟩
    | true =>
      cases o2 with
      | false =>
        rw [Bool.true_and, if_neg (by simp)]
        clear hi1 hi2 hb1 hb2
        go_enter Tryz.func21, Tryz.ntmps21
        go_wp2_with fail
        refine (SX.out _).mono ?_
        rintro e w' ⟨rfl, rfl⟩
        go_wp2_with fail
        go_ret
        exact ⟨rfl, HB.out⟩
      | true =>
        rw [Bool.true_and, if_pos rfl]
        replace hi1 := hi1.symm
        replace hi2 := hi2.symm
        replace hb1 := hb1.symm
        replace hb2 := hb2.symm
        cases i1 with
        | true =>
          cases i2 with
          | true =>
            rw [Bool.true_and, if_pos rfl]
            clear hb1 hb2
            go_enter Tryz.func21, Tryz.ntmps21
            go_wp2_with fail
            refine (SX.out _).mono ?_
            rintro e w' ⟨rfl, rfl⟩
            go_wp2_with fail
            refine (BI.out _ (HV.out.below HB.out)).mono ?_
            rintro e w2 ⟨rfl, hb2⟩
            have HB2 := Lib.hid (HB.out.trans (hb2.mono HB.out.size))
            go_wp2_with fail
            go_ret
            exact ⟨rfl, HB2.out⟩
          | false =>
            rw [Bool.true_and, if_neg (by simp)]
            cases b1 with
            | true =>
              cases b2 with
              | true =>
                rw [Bool.true_and, if_pos rfl]
                go_enter Tryz.func21, Tryz.ntmps21
                go_wp2_with fail
                refine (SX.out _).mono ?_
                rintro e w' ⟨rfl, rfl⟩
                go_wp2_with fail
                refine (BB.out _).mono ?_
                rintro e w2 ⟨rfl, hb2⟩
                have HB2 := Lib.hid (HB.out.trans (hb2.mono HB.out.size))
                go_wp2_with fail
                go_ret
                exact ⟨rfl, HB2.out⟩
              | false =>
                rw [Bool.true_and, if_neg (by simp)]
                cases k1 with
                | false =>
                  simp only [Bool.not_false, Bool.true_or, if_true]
                  go_enter Tryz.func21, Tryz.ntmps21
                  go_wp2_with fail
                  refine (SX.out _).mono ?_
                  rintro e w' ⟨rfl, rfl⟩
                  go_wp2_with fail
                  refine (K1.out _).mono ?_
                  rintro e w' ⟨rfl, rfl⟩
                  go_wp2_with fail
                  go_ret
                  exact ⟨rfl, HB.out⟩
                | true =>
                  cases k2 with
                  | false =>
                    simp only [Bool.not_false, Bool.not_true, Bool.false_or, if_true]
                    go_enter Tryz.func21, Tryz.ntmps21
                    go_wp2_with fail
                    refine (SX.out _).mono ?_
                    rintro e w' ⟨rfl, rfl⟩
                    go_wp2_with fail
                    refine (K1.out _).mono ?_
                    rintro e w' ⟨rfl, rfl⟩
                    go_wp2_with fail
                    refine (K2.out _).mono ?_
                    rintro e w' ⟨rfl, rfl⟩
                    go_wp2_with fail
                    go_ret
                    exact ⟨rfl, HB.out⟩
                  | true =>
                    simp only [Bool.not_true, Bool.false_or, Bool.false_eq_true, if_false]
                    go_enter Tryz.func21, Tryz.ntmps21
                    go_wp2_with fail
                    refine (SX.out _).mono ?_
                    rintro e w' ⟨rfl, rfl⟩
                    go_wp2_with fail
                    refine (K1.out _).mono ?_
                    rintro e w' ⟨rfl, rfl⟩
                    go_wp2_with fail
                    refine (K2.out _).mono ?_
                    rintro e w' ⟨rfl, rfl⟩
                    go_wp2_with fail
                    go_ret
                    exact ⟨rfl, HB.out⟩
            | false =>
              rw [Bool.false_and, if_neg (by simp)]
              clear hb2
              cases k1 with
              | false =>
                simp only [Bool.not_false, Bool.true_or, if_true]
                go_enter Tryz.func21, Tryz.ntmps21
                go_wp2_with fail
                refine (SX.out _).mono ?_
                rintro e w' ⟨rfl, rfl⟩
                go_wp2_with fail
                refine (K1.out _).mono ?_
                rintro e w' ⟨rfl, rfl⟩
                go_wp2_with fail
                go_ret
                exact ⟨rfl, HB.out⟩
              | true =>
                cases k2 with
                | false =>
                  simp only [Bool.not_false, Bool.not_true, Bool.false_or, if_true]
                  go_enter Tryz.func21, Tryz.ntmps21
                  go_wp2_with fail
                  refine (SX.out _).mono ?_
                  rintro e w' ⟨rfl, rfl⟩
                  go_wp2_with fail
                  refine (K1.out _).mono ?_
                  rintro e w' ⟨rfl, rfl⟩
                  go_wp2_with fail
                  refine (K2.out _).mono ?_
                  rintro e w' ⟨rfl, rfl⟩
                  go_wp2_with fail
                  go_ret
                  exact ⟨rfl, HB.out⟩
                | true =>
                  simp only [Bool.not_true, Bool.false_or, Bool.false_eq_true, if_false]
                  go_enter Tryz.func21, Tryz.ntmps21
                  go_wp2_with fail
                  refine (SX.out _).mono ?_
                  rintro e w' ⟨rfl, rfl⟩
                  go_wp2_with fail
                  refine (K1.out _).mono ?_
                  rintro e w' ⟨rfl, rfl⟩
                  go_wp2_with fail
                  refine (K2.out _).mono ?_
                  rintro e w' ⟨rfl, rfl⟩
                  go_wp2_with fail
                  go_ret
                  exact ⟨rfl, HB.out⟩
        | false =>
          rw [Bool.false_and, if_neg (by simp)]
          clear hi2
          cases b1 with
          | true =>
            cases b2 with
            | true =>
              rw [Bool.true_and, if_pos rfl]
              go_enter Tryz.func21, Tryz.ntmps21
              go_wp2_with fail
              refine (SX.out _).mono ?_
              rintro e w' ⟨rfl, rfl⟩
              go_wp2_with fail
              refine (BB.out _).mono ?_
              rintro e w2 ⟨rfl, hb2⟩
              have HB2 := Lib.hid (HB.out.trans (hb2.mono HB.out.size))
              go_wp2_with fail
              go_ret
              exact ⟨rfl, HB2.out⟩
            | false =>
              rw [Bool.true_and, if_neg (by simp)]
              cases k1 with
              | false =>
                simp only [Bool.not_false, Bool.true_or, if_true]
                go_enter Tryz.func21, Tryz.ntmps21
                go_wp2_with fail
                refine (SX.out _).mono ?_
                rintro e w' ⟨rfl, rfl⟩
                go_wp2_with fail
                refine (K1.out _).mono ?_
                rintro e w' ⟨rfl, rfl⟩
                go_wp2_with fail
                go_ret
                exact ⟨rfl, HB.out⟩
              | true =>
                cases k2 with
                | false =>
                  simp only [Bool.not_false, Bool.not_true, Bool.false_or, if_true]
                  go_enter Tryz.func21, Tryz.ntmps21
                  go_wp2_with fail
                  refine (SX.out _).mono ?_
                  rintro e w' ⟨rfl, rfl⟩
                  go_wp2_with fail
                  refine (K1.out _).mono ?_
                  rintro e w' ⟨rfl, rfl⟩
                  go_wp2_with fail
                  refine (K2.out _).mono ?_
                  rintro e w' ⟨rfl, rfl⟩
                  go_wp2_with fail
                  go_ret
                  exact ⟨rfl, HB.out⟩
                | true =>
                  simp only [Bool.not_true, Bool.false_or, Bool.false_eq_true, if_false]
                  go_enter Tryz.func21, Tryz.ntmps21
                  go_wp2_with fail
                  refine (SX.out _).mono ?_
                  rintro e w' ⟨rfl, rfl⟩
                  go_wp2_with fail
                  refine (K1.out _).mono ?_
                  rintro e w' ⟨rfl, rfl⟩
                  go_wp2_with fail
                  refine (K2.out _).mono ?_
                  rintro e w' ⟨rfl, rfl⟩
                  go_wp2_with fail
                  go_ret
                  exact ⟨rfl, HB.out⟩
          | false =>
            rw [Bool.false_and, if_neg (by simp)]
            clear hb2
            cases k1 with
            | false =>
              simp only [Bool.not_false, Bool.true_or, if_true]
              go_enter Tryz.func21, Tryz.ntmps21
              go_wp2_with fail
              refine (SX.out _).mono ?_
              rintro e w' ⟨rfl, rfl⟩
              go_wp2_with fail
              refine (K1.out _).mono ?_
              rintro e w' ⟨rfl, rfl⟩
              go_wp2_with fail
              go_ret
              exact ⟨rfl, HB.out⟩
            | true =>
              cases k2 with
              | false =>
                simp only [Bool.not_false, Bool.not_true, Bool.false_or, if_true]
                go_enter Tryz.func21, Tryz.ntmps21
                go_wp2_with fail
                refine (SX.out _).mono ?_
                rintro e w' ⟨rfl, rfl⟩
                go_wp2_with fail
                refine (K1.out _).mono ?_
                rintro e w' ⟨rfl, rfl⟩
                go_wp2_with fail
                refine (K2.out _).mono ?_
                rintro e w' ⟨rfl, rfl⟩
                go_wp2_with fail
                go_ret
                exact ⟨rfl, HB.out⟩
              | true =>
                simp only [Bool.not_true, Bool.false_or, Bool.false_eq_true, if_false]
                go_enter Tryz.func21, Tryz.ntmps21
                go_wp2_with fail
                refine (SX.out _).mono ?_
                rintro e w' ⟨rfl, rfl⟩
                go_wp2_with fail
                refine (K1.out _).mono ?_
                rintro e w' ⟨rfl, rfl⟩
                go_wp2_with fail
                refine (K2.out _).mono ?_
                rintro e w' ⟨rfl, rfl⟩
                go_wp2_with fail
                go_ret
                exact ⟨rfl, HB.out⟩
end Go.Proofs.YteeajhnbifpklaaGreatDoor
