/- Contracts of package term's AsBool, known and Equal over this seat's program. Every two terms (texts up to a megabyte). -/
import Derived.Test.YteeajhnbifpklaaGreatDoorTmAs
namespace Go.Proofs.YteeajhnbifpklaaGreatDoor
open Go Go.RowKit
set_option linter.unusedVariables false
def isTrue (s : ByteArray) : Bool := (s.toList == [116, 114, 117, 101]) || (s.toList == [49])
def isFalse (s : ByteArray) : Bool := (s.toList == [102, 97, 108, 115, 101]) || (s.toList == [48])
def abV : Tm → Bool
  | .lit s t _ => isBool t && isTrue s
  | _ => false
def abE : Tm → Int
  | .lit s t _ => if isBool t then (if isTrue s then 0 else if isFalse s then 0 else 3) else 10
  | _ => 10
set_option maxRecDepth 100000 in
set_option maxHeartbeats 1600000 in
theorem asbool_any (x : Tm) (w : World) : Calls Tryz.prog 9 #[tmV x] w fun e w' => e = .returned (.tuple #[.bool (abV x), .int .i64 (abE x)]) ∧ Below w.heap.size w w' := by
  have OX := Lib.hid (fun w => of_any3 x ⟨#[104, 116, 116, 112, 58, 47, 47, 119, 119, 119, 46, 119, 51, 46, 111, 114, 103, 47, 50, 48, 48, 49, 47, 88, 77, 76, 83, 99, 104, 101, 109, 97, 35, 98, 111, 111, 108, 101, 97, 110]⟩ w)
  rw [ofV_bool x] at OX
  cases x with
  | lit s t l =>
    show Calls Tryz.prog 9 #[tmV (.lit s t l)] w fun e w' => e = .returned (.tuple #[.bool (isBool t && isTrue s), .int .i64 (if isBool t then (if isTrue s then 0 else if isFalse s then 0 else 3) else 10)]) ∧ Below w.heap.size w w'
    generalize tmV (.lit s t l) = vx at *
    change Hid (∀ w, Calls Tryz.prog 22 #[vx, _] w fun e w' => e = .returned (.tuple #[.agg #[.string s, .string t, .string l], .bool (isBool t)]) ∧ Below w.heap.size w w') at OX
    unfold isTrue isFalse
    generalize isBool t = bt at *
    cases bt with
    | false =>
      simp only [Bool.false_eq_true, if_false, Bool.false_and]
      go_enter Tryz.func9, Tryz.ntmps9
      go_wp2_with fail
      refine (OX.out _).mono ?_
      rintro e w1 ⟨rfl, hb1⟩
      have HB := Lib.hid (hb1.alloc hb1.size (.cells #[.string s, .string t, .string l] 53))
      clear hb1
      go_wp2_with fail
      go_ret2
      exact ⟨rfl, HB.out⟩
    | true =>
      simp only [if_true, Bool.true_and]
      cases h1 : s.toList == [116, 114, 117, 101] with
      | true =>
        simp only [Bool.true_or, if_true]
        go_enter Tryz.func9, Tryz.ntmps9
        go_wp2_with fail
        refine (OX.out _).mono ?_
        rintro e w1 ⟨rfl, hb1⟩
        have HB := Lib.hid (hb1.alloc hb1.size (.cells #[.string s, .string t, .string l] 53))
        clear hb1
        go_wp2_with fail
        go_ret2
        exact ⟨rfl, HB.out⟩
      | false =>
        cases h2 : s.toList == [49] with
        | true =>
          simp only [Bool.false_or, if_true]
          go_enter Tryz.func9, Tryz.ntmps9
          go_wp2_with fail
          refine (OX.out _).mono ?_
          rintro e w1 ⟨rfl, hb1⟩
          have HB := Lib.hid (hb1.alloc hb1.size (.cells #[.string s, .string t, .string l] 53))
          clear hb1
          go_wp2_with fail
          go_ret2
          exact ⟨rfl, HB.out⟩
        | false =>
          simp only [Bool.false_or, Bool.false_eq_true, if_false]
          cases h3 : s.toList == [102, 97, 108, 115, 101] with
          | true =>
            simp only [Bool.true_or, if_true]
            go_enter Tryz.func9, Tryz.ntmps9
            go_wp2_with fail
            refine (OX.out _).mono ?_
            rintro e w1 ⟨rfl, hb1⟩
            have HB := Lib.hid (hb1.alloc hb1.size (.cells #[.string s, .string t, .string l] 53))
            clear hb1
            go_wp2_with fail
            go_ret2
            exact ⟨rfl, HB.out⟩
          | false =>
            cases h4 : s.toList == [48] with
            | true =>
              simp only [Bool.false_or, if_true]
              go_enter Tryz.func9, Tryz.ntmps9
              go_wp2_with fail
              refine (OX.out _).mono ?_
              rintro e w1 ⟨rfl, hb1⟩
              have HB := Lib.hid (hb1.alloc hb1.size (.cells #[.string s, .string t, .string l] 53))
              clear hb1
              go_wp2_with fail
              go_ret2
              exact ⟨rfl, HB.out⟩
            | false =>
              simp only [Bool.false_or, Bool.false_eq_true, if_false]
              go_enter Tryz.func9, Tryz.ntmps9
              go_wp2_with fail
              refine (OX.out _).mono ?_
              rintro e w1 ⟨rfl, hb1⟩
              have HB := Lib.hid (hb1.alloc hb1.size (.cells #[.string s, .string t, .string l] 53))
              clear hb1
              go_wp2_with fail
              go_ret2
              exact ⟨rfl, HB.out⟩
  | blank s =>
    show Calls Tryz.prog 9 #[tmV (.blank s)] w fun e w' => e = .returned (.tuple #[.bool false, .int .i64 10]) ∧ Below w.heap.size w w'
    generalize tmV (.blank s) = vx at *
    change Hid (∀ w, Calls Tryz.prog 22 #[vx, _] w fun e w' => e = .returned (.tuple #[.agg #[.string ⟨#[]⟩, .string ⟨#[]⟩, .string ⟨#[]⟩], .bool false]) ∧ Below w.heap.size w w') at OX
    go_enter Tryz.func9, Tryz.ntmps9
    go_wp2_with fail
    refine (OX.out _).mono ?_
    rintro e w1 ⟨rfl, hb1⟩
    have HB := Lib.hid (hb1.alloc hb1.size (.cells #[.string ⟨#[]⟩, .string ⟨#[]⟩, .string ⟨#[]⟩] 53))
    clear hb1
    go_wp2_with fail
    go_ret2
    exact ⟨rfl, HB.out⟩
  | iri s =>
    show Calls Tryz.prog 9 #[tmV (.iri s)] w fun e w' => e = .returned (.tuple #[.bool false, .int .i64 10]) ∧ Below w.heap.size w w'
    generalize tmV (.iri s) = vx at *
    change Hid (∀ w, Calls Tryz.prog 22 #[vx, _] w fun e w' => e = .returned (.tuple #[.agg #[.string ⟨#[]⟩, .string ⟨#[]⟩, .string ⟨#[]⟩], .bool false]) ∧ Below w.heap.size w w') at OX
    go_enter Tryz.func9, Tryz.ntmps9
    go_wp2_with fail
    refine (OX.out _).mono ?_
    rintro e w1 ⟨rfl, hb1⟩
    have HB := Lib.hid (hb1.alloc hb1.size (.cells #[.string ⟨#[]⟩, .string ⟨#[]⟩, .string ⟨#[]⟩] 53))
    clear hb1
    go_wp2_with fail
    go_ret2
    exact ⟨rfl, HB.out⟩
  | odd n =>
    show Calls Tryz.prog 9 #[tmV (.odd n)] w fun e w' => e = .returned (.tuple #[.bool false, .int .i64 10]) ∧ Below w.heap.size w w'
    generalize tmV (.odd n) = vx at *
    change Hid (∀ w, Calls Tryz.prog 22 #[vx, _] w fun e w' => e = .returned (.tuple #[.agg #[.string ⟨#[]⟩, .string ⟨#[]⟩, .string ⟨#[]⟩], .bool false]) ∧ Below w.heap.size w w') at OX
    go_enter Tryz.func9, Tryz.ntmps9
    go_wp2_with fail
    refine (OX.out _).mono ?_
    rintro e w1 ⟨rfl, hb1⟩
    have HB := Lib.hid (hb1.alloc hb1.size (.cells #[.string ⟨#[]⟩, .string ⟨#[]⟩, .string ⟨#[]⟩] 53))
    clear hb1
    go_wp2_with fail
    go_ret2
    exact ⟨rfl, HB.out⟩
  | none =>
    show Calls Tryz.prog 9 #[tmV (.none)] w fun e w' => e = .returned (.tuple #[.bool false, .int .i64 10]) ∧ Below w.heap.size w w'
    generalize tmV (.none) = vx at *
    change Hid (∀ w, Calls Tryz.prog 22 #[vx, _] w fun e w' => e = .returned (.tuple #[.agg #[.string ⟨#[]⟩, .string ⟨#[]⟩, .string ⟨#[]⟩], .bool false]) ∧ Below w.heap.size w w') at OX
    go_enter Tryz.func9, Tryz.ntmps9
    go_wp2_with fail
    refine (OX.out _).mono ?_
    rintro e w1 ⟨rfl, hb1⟩
    have HB := Lib.hid (hb1.alloc hb1.size (.cells #[.string ⟨#[]⟩, .string ⟨#[]⟩, .string ⟨#[]⟩] 53))
    clear hb1
    go_wp2_with fail
    go_ret2
    exact ⟨rfl, HB.out⟩
def bothB (x y : Tm) : Int := if abE x = 0 ∧ abE y = 0 then truthV (abV x == abV y) else 2
set_option maxRecDepth 100000 in
set_option maxHeartbeats 800000 in
theorem bothbool_any (x y : Tm) (w : World) :
    Calls Tryz.prog 32 #[tmV x, tmV y, .func (.func 9) #[] #[]] w fun e w' => e = .returned (.int .u8 (bothB x y)) ∧ Below w.heap.size w w' := by
  have AX := Lib.hid (fun w => asbool_any x w)
  have AY := Lib.hid (fun w => asbool_any y w)
  unfold bothB
  generalize abV x = nx at *
  generalize abV y = ny at *
  generalize abE x = ex at *
  generalize abE y = ey at *
  generalize tmV x = vx at *
  generalize tmV y = vy at *
  obtain ⟨D, hD⟩ : ∃ D, D = (nx == ny) := ⟨_, rfl⟩
  rw [← hD]
  have HD := Lib.hid hD
  clear hD
  rcases (by omega : (ex = 0 ∧ ey = 0) ∨ ex ≠ 0 ∨ (ex = 0 ∧ ey ≠ 0)) with ⟨rfl, rfl⟩ | h | ⟨rfl, h⟩
  · rw [if_pos ⟨rfl, rfl⟩]
    go_enter Tryz.func32, Tryz.ntmps32
    go_wp2_with fail
    refine (AX.out _).mono ?_
    rintro e w1 ⟨rfl, hb1⟩
    go_wp2_with fail
    refine (AY.out _).mono ?_
    rintro e w2 ⟨rfl, hb2⟩
    have HB := Lib.hid (hb1.trans (hb2.mono hb1.size))
    clear hb1 hb2
    go_wp2_with fail
    rw [← HD.out]
    refine (vof_any D _).mono ?_
    rintro e w' ⟨rfl, rfl⟩
    go_wp2_with fail
    go_ret
    exact ⟨rfl, HB.out⟩
  · rw [if_neg (fun hh => h hh.1)]
    have h2 : (ex != 0) = true := by simpa using h
    clear h
    go_enter Tryz.func32, Tryz.ntmps32
    go_wp2_with fail
    refine (AX.out _).mono ?_
    rintro e w1 ⟨rfl, hb1⟩
    go_wp2_with fail
    refine (AY.out _).mono ?_
    rintro e w2 ⟨rfl, hb2⟩
    have HB := Lib.hid (hb1.trans (hb2.mono hb1.size))
    clear hb1 hb2
    go_wp2_with fail
    go_ret
    exact ⟨rfl, HB.out⟩
  · rw [if_neg (fun hh => h hh.2)]
    have h2 : (ey != 0) = true := by simpa using h
    clear h
    go_enter Tryz.func32, Tryz.ntmps32
    go_wp2_with fail
    refine (AX.out _).mono ?_
    rintro e w1 ⟨rfl, hb1⟩
    go_wp2_with fail
    refine (AY.out _).mono ?_
    rintro e w2 ⟨rfl, hb2⟩
    have HB := Lib.hid (hb1.trans (hb2.mono hb1.size))
    clear hb1 hb2
    go_wp2_with fail
    go_ret
    exact ⟨rfl, HB.out⟩
def knownV (t : ByteArray) : Bool := isStr t || isInt t || isBool t || isLang t
set_option maxRecDepth 100000 in
theorem known_any (t : ByteArray) (w : World) : Calls Tryz.prog 33 #[.string t] w fun e w' => e = .returned (.bool (knownV t)) ∧ w = w' := by
  unfold knownV isStr isInt isBool isLang xStringB xIntB xBoolB xLangL
  cases h1 : t.toList == [104, 116, 116, 112, 58, 47, 47, 119, 119, 119, 46, 119, 51, 46, 111, 114, 103, 47, 50, 48, 48, 49, 47, 88, 77, 76, 83, 99, 104, 101, 109, 97, 35, 115, 116, 114, 105, 110, 103] with
  | true => 
    go_enter Tryz.func33, Tryz.ntmps33
    go_wp2
    go_ret
    exact ⟨rfl, rfl⟩
  | false =>
    cases h2 : t.toList == [104, 116, 116, 112, 58, 47, 47, 119, 119, 119, 46, 119, 51, 46, 111, 114, 103, 47, 50, 48, 48, 49, 47, 88, 77, 76, 83, 99, 104, 101, 109, 97, 35, 105, 110, 116, 101, 103, 101, 114] with
    | true => 
      go_enter Tryz.func33, Tryz.ntmps33
      go_wp2
      go_ret
      exact ⟨rfl, rfl⟩
    | false =>
      cases h3 : t.toList == [104, 116, 116, 112, 58, 47, 47, 119, 119, 119, 46, 119, 51, 46, 111, 114, 103, 47, 50, 48, 48, 49, 47, 88, 77, 76, 83, 99, 104, 101, 109, 97, 35, 98, 111, 111, 108, 101, 97, 110] with
      | true => 
        go_enter Tryz.func33, Tryz.ntmps33
        go_wp2
        go_ret
        exact ⟨rfl, rfl⟩
      | false =>
        cases h4 : t.toList == [104, 116, 116, 112, 58, 47, 47, 119, 119, 119, 46, 119, 51, 46, 111, 114, 103, 47, 49, 57, 57, 57, 47, 48, 50, 47, 50, 50, 45, 114, 100, 102, 45, 115, 121, 110, 116, 97, 120, 45, 110, 115, 35, 108, 97, 110, 103, 83, 116, 114, 105, 110, 103] with
        | true => 
          go_enter Tryz.func33, Tryz.ntmps33
          go_wp2
          go_ret
          exact ⟨rfl, rfl⟩
        | false => 
          go_enter Tryz.func33, Tryz.ntmps33
          go_wp2
          go_ret
          exact ⟨rfl, rfl⟩
end Go.Proofs.YteeajhnbifpklaaGreatDoor
