/- Contracts of package term's AsInt, AsBool, known, both over this seat's program. Every term (texts up to a megabyte). -/
import Derived.Test.YteeajhnbifpklaaGreatDoorTmOf
import Derived.Test.YteeajhnbifpklaaGreatDoorTvWalk
namespace Go.Proofs.YteeajhnbifpklaaGreatDoor
open Go Go.RowKit
set_option linter.unusedVariables false
def xIntB : List UInt8 := [104, 116, 116, 112, 58, 47, 47, 119, 119, 119, 46, 119, 51, 46, 111, 114, 103, 47, 50, 48, 48, 49, 47, 88, 77, 76, 83, 99, 104, 101, 109, 97, 35, 105, 110, 116, 101, 103, 101, 114]
def xBoolB : List UInt8 := [104, 116, 116, 112, 58, 47, 47, 119, 119, 119, 46, 119, 51, 46, 111, 114, 103, 47, 50, 48, 48, 49, 47, 88, 77, 76, 83, 99, 104, 101, 109, 97, 35, 98, 111, 111, 108, 101, 97, 110]
def xStringB : List UInt8 := [104, 116, 116, 112, 58, 47, 47, 119, 119, 119, 46, 119, 51, 46, 111, 114, 103, 47, 50, 48, 48, 49, 47, 88, 77, 76, 83, 99, 104, 101, 109, 97, 35, 115, 116, 114, 105, 110, 103]
def isInt (t : ByteArray) : Bool := t.toList == xIntB
def isBool (t : ByteArray) : Bool := t.toList == xBoolB
def isStr (t : ByteArray) : Bool := t.toList == xStringB
def isLang (t : ByteArray) : Bool := t.toList == xLangL
def Sized : Tm → Prop
  | .blank s => s.size ≤ 1000000
  | .iri s => s.size ≤ 1000000
  | .lit s t l => s.size ≤ 1000000 ∧ t.size ≤ 1000000 ∧ l.size ≤ 1000000
  | _ => True
/-- its integer, the error -/
def aiE : Tm → Int
  | .lit s t _ => if isInt t then (if eP s.data.toList = 1 then 3 else eP s.data.toList) else 10
  | _ => 10
def aiN : Tm → Int
  | .lit s t _ => if isInt t then nP s.data.toList else 0
  | _ => 0
theorem ofV_int (x : Tm) : ofV ⟨#[104, 116, 116, 112, 58, 47, 47, 119, 119, 119, 46, 119, 51, 46, 111, 114, 103, 47, 50, 48, 48, 49, 47, 88, 77, 76, 83, 99, 104, 101, 109, 97, 35, 105, 110, 116, 101, 103, 101, 114]⟩ x = match x with | .lit _ t _ => isInt t | _ => false := by
  cases x <;> try rfl
  rename_i s t l
  show (t.toList == (⟨#[104, 116, 116, 112, 58, 47, 47, 119, 119, 119, 46, 119, 51, 46, 111, 114, 103, 47, 50, 48, 48, 49, 47, 88, 77, 76, 83, 99, 104, 101, 109, 97, 35, 105, 110, 116, 101, 103, 101, 114]⟩ : ByteArray).toList) = isInt t
  unfold isInt xIntB
  rw [Lib.toList_data ⟨#[104, 116, 116, 112, 58, 47, 47, 119, 119, 119, 46, 119, 51, 46, 111, 114, 103, 47, 50, 48, 48, 49, 47, 88, 77, 76, 83, 99, 104, 101, 109, 97, 35, 105, 110, 116, 101, 103, 101, 114]⟩]
theorem ofV_bool (x : Tm) : ofV ⟨#[104, 116, 116, 112, 58, 47, 47, 119, 119, 119, 46, 119, 51, 46, 111, 114, 103, 47, 50, 48, 48, 49, 47, 88, 77, 76, 83, 99, 104, 101, 109, 97, 35, 98, 111, 111, 108, 101, 97, 110]⟩ x = match x with | .lit _ t _ => isBool t | _ => false := by
  cases x <;> try rfl
  rename_i s t l
  show (t.toList == (⟨#[104, 116, 116, 112, 58, 47, 47, 119, 119, 119, 46, 119, 51, 46, 111, 114, 103, 47, 50, 48, 48, 49, 47, 88, 77, 76, 83, 99, 104, 101, 109, 97, 35, 98, 111, 111, 108, 101, 97, 110]⟩ : ByteArray).toList) = isBool t
  unfold isBool xBoolB
  rw [Lib.toList_data ⟨#[104, 116, 116, 112, 58, 47, 47, 119, 119, 119, 46, 119, 51, 46, 111, 114, 103, 47, 50, 48, 48, 49, 47, 88, 77, 76, 83, 99, 104, 101, 109, 97, 35, 98, 111, 111, 108, 101, 97, 110]⟩]
theorem eP_one (l : List UInt8) (h : eP l = 1) : nP l = 0 := by
  unfold eP at h
  unfold nP
  cases h1 : isNum l with
  | false => rfl
  | true => rw [h1] at h; simp only [if_true] at h; split at h <;> cases h
set_option maxRecDepth 100000 in
set_option maxHeartbeats 800000 in
theorem asint_any (x : Tm) (w : World) (hz : Sized x) (hv : ErrV w) : Calls Tryz.prog 8 #[tmV x] w fun e w' => e = .returned (.tuple #[.int .i64 (aiN x), .int .i64 (aiE x)]) ∧ Below w.heap.size w w' := by
  have OX := Lib.hid (fun w => of_any3 x ⟨#[104, 116, 116, 112, 58, 47, 47, 119, 119, 119, 46, 119, 51, 46, 111, 114, 103, 47, 50, 48, 48, 49, 47, 88, 77, 76, 83, 99, 104, 101, 109, 97, 35, 105, 110, 116, 101, 103, 101, 114]⟩ w)
  rw [ofV_int x] at OX
  cases x with
  | lit s t l =>
    have PX := Lib.hid (fun w hv => parse_any s (by have := hz.1; omega) w hv)
    have HV := Lib.hid hv
    unfold aiN aiE
    obtain ⟨N, hN⟩ : ∃ N, N = nP s.data.toList := ⟨_, rfl⟩
    obtain ⟨E, hE⟩ : ∃ E, E = eP s.data.toList := ⟨_, rfl⟩
    have HNE : Hid (E = 1 → N = 0) := Lib.hid (fun h => by rw [hN]; exact eP_one _ (hE ▸ h))
    simp only [← hN, ← hE] at PX ⊢
    clear hN hE hz hv
    generalize tmV (.lit s t l) = vx at *
    change Hid (∀ w, Calls Tryz.prog 22 #[vx, _] w fun e w' => e = .returned (.tuple #[.agg #[.string s, .string t, .string l], .bool (isInt t)]) ∧ Below w.heap.size w w') at OX
    cases hI : isInt t with
    | false =>
      rw [hI] at OX
      simp only [Bool.false_eq_true, if_false]
      clear hI
      go_enter Tryz.func8, Tryz.ntmps8
      go_wp2_with fail
      refine (OX.out _).mono ?_
      rintro e w1 ⟨rfl, hb1⟩
      have HB := Lib.hid (hb1.alloc hb1.size (.cells #[.string s, .string t, .string l] 53))
      clear hb1
      go_wp2_with fail
      go_ret2
      exact ⟨rfl, HB.out⟩
    | true =>
      rw [hI] at OX
      simp only [if_true]
      clear hI
      by_cases h1 : E = 1
      · subst h1
        obtain rfl : N = 0 := HNE.out rfl
        go_enter Tryz.func8, Tryz.ntmps8
        go_wp2_with fail
        refine (OX.out _).mono ?_
        rintro e w1 ⟨rfl, hb1⟩
        have HB := Lib.hid (hb1.alloc hb1.size (.cells #[.string s, .string t, .string l] 53))
        clear hb1
        go_wp2_with fail
        refine (PX.out _ (HV.out.below HB.out)).mono ?_
        rintro e w2 ⟨rfl, hb2⟩
        replace HB := Lib.hid (HB.out.trans (hb2.mono HB.out.size))
        clear hb2
        go_wp2_with fail
        go_ret2
        exact ⟨rfl, HB.out⟩
      · have h2 : (E == 1) = false := beq_eq_false_iff_ne.mpr h1
        rw [if_neg h1]
        clear h1 HNE
        go_enter Tryz.func8, Tryz.ntmps8
        go_wp2_with fail
        refine (OX.out _).mono ?_
        rintro e w1 ⟨rfl, hb1⟩
        have HB := Lib.hid (hb1.alloc hb1.size (.cells #[.string s, .string t, .string l] 53))
        clear hb1
        go_wp2_with fail
        refine (PX.out _ (HV.out.below HB.out)).mono ?_
        rintro e w2 ⟨rfl, hb2⟩
        replace HB := Lib.hid (HB.out.trans (hb2.mono HB.out.size))
        clear hb2
        go_wp2_with fail
        go_ret2
        exact ⟨rfl, HB.out⟩
  | blank s =>
    show Calls Tryz.prog 8 #[tmV (.blank s)] w fun e w' => e = .returned (.tuple #[.int .i64 0, .int .i64 10]) ∧ Below w.heap.size w w'
    generalize tmV (.blank s) = vx at *
    change Hid (∀ w, Calls Tryz.prog 22 #[vx, _] w fun e w' => e = .returned (.tuple #[.agg #[.string ⟨#[]⟩, .string ⟨#[]⟩, .string ⟨#[]⟩], .bool false]) ∧ Below w.heap.size w w') at OX
    go_enter Tryz.func8, Tryz.ntmps8
    go_wp2_with fail
    refine (OX.out _).mono ?_
    rintro e w1 ⟨rfl, hb1⟩
    have HB := Lib.hid (hb1.alloc hb1.size (.cells #[.string ⟨#[]⟩, .string ⟨#[]⟩, .string ⟨#[]⟩] 53))
    clear hb1
    go_wp2_with fail
    go_ret2
    exact ⟨rfl, HB.out⟩
  | iri s =>
    show Calls Tryz.prog 8 #[tmV (.iri s)] w fun e w' => e = .returned (.tuple #[.int .i64 0, .int .i64 10]) ∧ Below w.heap.size w w'
    generalize tmV (.iri s) = vx at *
    change Hid (∀ w, Calls Tryz.prog 22 #[vx, _] w fun e w' => e = .returned (.tuple #[.agg #[.string ⟨#[]⟩, .string ⟨#[]⟩, .string ⟨#[]⟩], .bool false]) ∧ Below w.heap.size w w') at OX
    go_enter Tryz.func8, Tryz.ntmps8
    go_wp2_with fail
    refine (OX.out _).mono ?_
    rintro e w1 ⟨rfl, hb1⟩
    have HB := Lib.hid (hb1.alloc hb1.size (.cells #[.string ⟨#[]⟩, .string ⟨#[]⟩, .string ⟨#[]⟩] 53))
    clear hb1
    go_wp2_with fail
    go_ret2
    exact ⟨rfl, HB.out⟩
  | odd n =>
    show Calls Tryz.prog 8 #[tmV (.odd n)] w fun e w' => e = .returned (.tuple #[.int .i64 0, .int .i64 10]) ∧ Below w.heap.size w w'
    generalize tmV (.odd n) = vx at *
    change Hid (∀ w, Calls Tryz.prog 22 #[vx, _] w fun e w' => e = .returned (.tuple #[.agg #[.string ⟨#[]⟩, .string ⟨#[]⟩, .string ⟨#[]⟩], .bool false]) ∧ Below w.heap.size w w') at OX
    go_enter Tryz.func8, Tryz.ntmps8
    go_wp2_with fail
    refine (OX.out _).mono ?_
    rintro e w1 ⟨rfl, hb1⟩
    have HB := Lib.hid (hb1.alloc hb1.size (.cells #[.string ⟨#[]⟩, .string ⟨#[]⟩, .string ⟨#[]⟩] 53))
    clear hb1
    go_wp2_with fail
    go_ret2
    exact ⟨rfl, HB.out⟩
  | none =>
    show Calls Tryz.prog 8 #[tmV (.none)] w fun e w' => e = .returned (.tuple #[.int .i64 0, .int .i64 10]) ∧ Below w.heap.size w w'
    generalize tmV (.none) = vx at *
    change Hid (∀ w, Calls Tryz.prog 22 #[vx, _] w fun e w' => e = .returned (.tuple #[.agg #[.string ⟨#[]⟩, .string ⟨#[]⟩, .string ⟨#[]⟩], .bool false]) ∧ Below w.heap.size w w') at OX
    go_enter Tryz.func8, Tryz.ntmps8
    go_wp2_with fail
    refine (OX.out _).mono ?_
    rintro e w1 ⟨rfl, hb1⟩
    have HB := Lib.hid (hb1.alloc hb1.size (.cells #[.string ⟨#[]⟩, .string ⟨#[]⟩, .string ⟨#[]⟩] 53))
    clear hb1
    go_wp2_with fail
    go_ret2
    exact ⟨rfl, HB.out⟩
def truthV (b : Bool) : Int := if b then 1 else 0
theorem vof_any (b : Bool) (w : World) : Calls Tryz.prog 29 #[.bool b] w fun e w' => e = .returned (.int .u8 (truthV b)) ∧ w = w' := by
  cases b <;>
  · go_enter Tryz.func29, Tryz.ntmps29
    go_wp2
    go_ret
    exact ⟨rfl, rfl⟩
def bothI (x y : Tm) : Int := if aiE x = 0 ∧ aiE y = 0 then truthV (aiN x == aiN y) else 2
set_option maxRecDepth 100000 in
set_option maxHeartbeats 800000 in
theorem bothint_any (x y : Tm) (w : World) (hx : Sized x) (hy : Sized y) (hv : ErrV w) :
    Calls Tryz.prog 31 #[tmV x, tmV y, .func (.func 8) #[] #[]] w fun e w' => e = .returned (.int .u8 (bothI x y)) ∧ Below w.heap.size w w' := by
  have AX := Lib.hid (fun w hv => asint_any x w hx hv)
  have AY := Lib.hid (fun w hv => asint_any y w hy hv)
  have HV := Lib.hid hv
  unfold bothI
  generalize aiN x = nx at *
  generalize aiN y = ny at *
  generalize aiE x = ex at *
  generalize aiE y = ey at *
  generalize tmV x = vx at *
  generalize tmV y = vy at *
  clear hx hy hv
  obtain ⟨D, hD⟩ : ∃ D, D = (nx == ny) := ⟨_, rfl⟩
  rw [← hD]
  have HD := Lib.hid hD
  clear hD
  rcases (by omega : (ex = 0 ∧ ey = 0) ∨ ex ≠ 0 ∨ (ex = 0 ∧ ey ≠ 0)) with ⟨rfl, rfl⟩ | h | ⟨rfl, h⟩
  · rw [if_pos ⟨rfl, rfl⟩]
    go_enter Tryz.func31, Tryz.ntmps31
    go_wp2_with fail
    refine (AX.out _ HV.out).mono ?_
    rintro e w1 ⟨rfl, hb1⟩
    go_wp2_with fail
    refine (AY.out _ (HV.out.below hb1)).mono ?_
    rintro e w2 ⟨rfl, hb2⟩
    have HB := Lib.hid (hb1.trans (hb2.mono hb1.size))
    clear hb1 hb2
    go_wp2_with fail
    rw [← HD.out]
    refine (vof_any D _).mono ?_
    rintro e w' ⟨rfl, rfl⟩
    go_wp2_with fail
    go_ret
    exact ⟨rfl, HB.out⟩
  · rw [if_neg (fun hh => h hh.1)]
    have h2 : (ex != 0) = true := by simpa using h
    clear h
    go_enter Tryz.func31, Tryz.ntmps31
    go_wp2_with fail
    refine (AX.out _ HV.out).mono ?_
    rintro e w1 ⟨rfl, hb1⟩
    go_wp2_with fail
    refine (AY.out _ (HV.out.below hb1)).mono ?_
    rintro e w2 ⟨rfl, hb2⟩
    have HB := Lib.hid (hb1.trans (hb2.mono hb1.size))
    clear hb1 hb2
    go_wp2_with fail
    go_ret
    exact ⟨rfl, HB.out⟩
  · rw [if_neg (fun hh => h hh.2)]
    have h2 : (ey != 0) = true := by simpa using h
    clear h
    go_enter Tryz.func31, Tryz.ntmps31
    go_wp2_with fail
    refine (AX.out _ HV.out).mono ?_
    rintro e w1 ⟨rfl, hb1⟩
    go_wp2_with fail
    refine (AY.out _ (HV.out.below hb1)).mono ?_
    rintro e w2 ⟨rfl, hb2⟩
    have HB := Lib.hid (hb1.trans (hb2.mono hb1.size))
    clear hb1 hb2
    go_wp2_with fail
    go_ret
    exact ⟨rfl, HB.out⟩
end Go.Proofs.YteeajhnbifpklaaGreatDoor
