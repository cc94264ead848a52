/- Contracts over this seat's program: package term's Effective, Int, Bool. -/
import Derived.Test.YteeajhnbifpklaaDoorTmAwake
import Derived.Test.YteeajhnbifpklaaDoorTvLaid
namespace Go.Proofs.YteeajhnbifpklaaDoor
open Go Go.RowKit
set_option linter.unusedVariables false
def effV : Tm → Int
  | .lit s t l => if isStr t || isLang t then truthV (!s.toList.isEmpty) else if isInt t then (if aiE (.lit s t l) = 0 then truthV (aiN (.lit s t l) != 0) else 2) else (if abE (.lit s t l) = 0 then truthV (abV (.lit s t l)) else 2)
  | _ => 2
set_option maxRecDepth 100000 in
set_option maxHeartbeats 1600000 in
theorem eff_any (x : Tm) (w : World) (hz : Sized x) (hv : ErrV w) : Calls Tryd.prog 25 #[tmV x] w fun e w' => e = .returned (.int .u8 (effV x)) ∧ Below w.heap.size w w' := by
  cases x with
  | lit s t l =>
    have TX := ta_lit_Literal s t l
    have AI := Lib.hid (fun w hv => asint_any (.lit s t l) w hz hv)
    have AB := Lib.hid (fun w => asbool_any (.lit s t l) w)
    have HV := Lib.hid hv
    change Calls Tryd.prog 25 #[tmV (.lit s t l)] w fun e w' => e = .returned (.int .u8 (if isStr t || isLang t then truthV (!s.toList.isEmpty) else if isInt t then (if aiE (.lit s t l) = 0 then truthV (aiN (.lit s t l) != 0) else 2) else (if abE (.lit s t l) = 0 then truthV (abV (.lit s t l)) else 2))) ∧ Below w.heap.size w w'
    generalize aiE (.lit s t l) = ie at *
    generalize aiN (.lit s t l) = iN at *
    generalize abE (.lit s t l) = be at *
    generalize abV (.lit s t l) = bv at *
    clear hz hv
    obtain ⟨q1, h1⟩ : ∃ q, q = isStr t := ⟨_, rfl⟩
    obtain ⟨q2, h2⟩ : ∃ q, q = isLang t := ⟨_, rfl⟩
    obtain ⟨q3, h3⟩ : ∃ q, q = isInt t := ⟨_, rfl⟩
    rw [← h1, ← h2, ← h3]
    unfold isStr xStringB at h1
    unfold isLang xLangL at h2
    unfold isInt xIntB at h3
    replace h1 := h1.symm
    replace h2 := h2.symm
    replace h3 := h3.symm
    change ∀ w, (Instr.typeAssert (tmV (.lit s t l)) _ _ true).run Tryd.prog w = _ at TX
    generalize tmV (.lit s t l) = vx at *
    cases q1 with
    | true =>
      rw [if_pos (by simp)]
      cases he : s.toList.isEmpty with
      | true =>
        have he2 : s.toList = [] := List.isEmpty_iff.1 he
        simp only [Bool.not_true]
        have HB : Hid (Below w.heap.size w (w.alloc (.cells #[.string s, .string t, .string l] 35))) := Lib.hid (by go_grown)
        go_enter Tryd.func25, Tryd.ntmps25
        go_wp2_with fail
        refine (vof_any false _).mono ?_
        rintro e w' ⟨rfl, rfl⟩
        go_wp2_with fail
        go_ret
        exact ⟨rfl, HB.out⟩
      | false =>
        have he2 : ¬ s.toList = [] := fun h => by rw [h] at he; cases he
        simp only [Bool.not_false]
        have HB : Hid (Below w.heap.size w (w.alloc (.cells #[.string s, .string t, .string l] 35))) := Lib.hid (by go_grown)
        go_enter Tryd.func25, Tryd.ntmps25
        go_wp2_with fail
        refine (vof_any true _).mono ?_
        rintro e w' ⟨rfl, rfl⟩
        go_wp2_with fail
        go_ret
        exact ⟨rfl, HB.out⟩
    | false =>
      cases q2 with
      | true =>
        rw [if_pos (by simp)]
        cases he : s.toList.isEmpty with
        | true =>
          have he2 : s.toList = [] := List.isEmpty_iff.1 he
          simp only [Bool.not_true]
          have HB : Hid (Below w.heap.size w (w.alloc (.cells #[.string s, .string t, .string l] 35))) := Lib.hid (by go_grown)
          go_enter Tryd.func25, Tryd.ntmps25
          go_wp2_with fail
          refine (vof_any false _).mono ?_
          rintro e w' ⟨rfl, rfl⟩
          go_wp2_with fail
          go_ret
          exact ⟨rfl, HB.out⟩
        | false =>
          have he2 : ¬ s.toList = [] := fun h => by rw [h] at he; cases he
          simp only [Bool.not_false]
          have HB : Hid (Below w.heap.size w (w.alloc (.cells #[.string s, .string t, .string l] 35))) := Lib.hid (by go_grown)
          go_enter Tryd.func25, Tryd.ntmps25
          go_wp2_with fail
          refine (vof_any true _).mono ?_
          rintro e w' ⟨rfl, rfl⟩
          go_wp2_with fail
          go_ret
          exact ⟨rfl, HB.out⟩
      | false =>
        cases q3 with
        | true =>
          rw [if_neg (by simp), if_pos rfl]
          by_cases h0 : ie = 0
          · subst h0
            rw [if_pos rfl]
            obtain ⟨D, hD⟩ : ∃ D, D = (iN != 0) := ⟨_, rfl⟩
            rw [← hD]
            have HD := Lib.hid hD
            clear hD
            have HB : Hid (Below w.heap.size w (w.alloc (.cells #[.string s, .string t, .string l] 35))) := Lib.hid (by go_grown)
            go_enter Tryd.func25, Tryd.ntmps25
            go_wp2_with fail
            refine (AI.out _ (HV.out.below HB.out)).mono ?_
            rintro e w2 ⟨rfl, hb2⟩
            replace HB := Lib.hid (HB.out.trans (hb2.mono HB.out.size))
            go_wp2_with fail
            rw [← HD.out]
            refine (vof_any D _).mono ?_
            rintro e w' ⟨rfl, rfl⟩
            go_wp2_with fail
            go_ret
            exact ⟨rfl, HB.out⟩
          · rw [if_neg h0]
            have h2 : (ie != 0) = true := by simpa using h0
            clear h0
            have HB : Hid (Below w.heap.size w (w.alloc (.cells #[.string s, .string t, .string l] 35))) := Lib.hid (by go_grown)
            go_enter Tryd.func25, Tryd.ntmps25
            go_wp2_with fail
            refine (AI.out _ (HV.out.below HB.out)).mono ?_
            rintro e w2 ⟨rfl, hb2⟩
            replace HB := Lib.hid (HB.out.trans (hb2.mono HB.out.size))
            go_wp2_with fail
            go_ret
            exact ⟨rfl, HB.out⟩
        | false =>
          rw [if_neg (by simp), if_neg (by simp)]
          by_cases h0 : be = 0
          · subst h0
            rw [if_pos rfl]
            have HB : Hid (Below w.heap.size w (w.alloc (.cells #[.string s, .string t, .string l] 35))) := Lib.hid (by go_grown)
            go_enter Tryd.func25, Tryd.ntmps25
            go_wp2_with fail
            refine (AB.out _).mono ?_
            rintro e w2 ⟨rfl, hb2⟩
            replace HB := Lib.hid (HB.out.trans (hb2.mono HB.out.size))
            go_wp2_with fail
            refine (vof_any bv _).mono ?_
            rintro e w' ⟨rfl, rfl⟩
            go_wp2_with fail
            go_ret
            exact ⟨rfl, HB.out⟩
          · rw [if_neg h0]
            have h2 : (be != 0) = true := by simpa using h0
            clear h0
            have HB : Hid (Below w.heap.size w (w.alloc (.cells #[.string s, .string t, .string l] 35))) := Lib.hid (by go_grown)
            go_enter Tryd.func25, Tryd.ntmps25
            go_wp2_with fail
            refine (AB.out _).mono ?_
            rintro e w2 ⟨rfl, hb2⟩
            replace HB := Lib.hid (HB.out.trans (hb2.mono HB.out.size))
            go_wp2_with fail
            go_ret
            exact ⟨rfl, HB.out⟩
  | blank s =>
    have TX := ta_blank_Literal s
    show Calls Tryd.prog 25 #[tmV (.blank s)] w fun e w' => e = .returned (.int .u8 2) ∧ Below w.heap.size w w'
    change ∀ w, (Instr.typeAssert (tmV (.blank s)) _ _ true).run Tryd.prog w = _ at TX
    generalize tmV (.blank s) = vx at *
    go_enter Tryd.func25, Tryd.ntmps25
    go_wp2_with fail
    go_ret
    exact ⟨rfl, by go_grown⟩
  | iri s =>
    have TX := ta_iri_Literal s
    show Calls Tryd.prog 25 #[tmV (.iri s)] w fun e w' => e = .returned (.int .u8 2) ∧ Below w.heap.size w w'
    change ∀ w, (Instr.typeAssert (tmV (.iri s)) _ _ true).run Tryd.prog w = _ at TX
    generalize tmV (.iri s) = vx at *
    go_enter Tryd.func25, Tryd.ntmps25
    go_wp2_with fail
    go_ret
    exact ⟨rfl, by go_grown⟩
  | odd n =>
    have TX := ta_odd_Literal n
    show Calls Tryd.prog 25 #[tmV (.odd n)] w fun e w' => e = .returned (.int .u8 2) ∧ Below w.heap.size w w'
    change ∀ w, (Instr.typeAssert (tmV (.odd n)) _ _ true).run Tryd.prog w = _ at TX
    generalize tmV (.odd n) = vx at *
    go_enter Tryd.func25, Tryd.ntmps25
    go_wp2_with fail
    go_ret
    exact ⟨rfl, by go_grown⟩
  | none =>
    have TX := ta_none_Literal
    show Calls Tryd.prog 25 #[tmV (.none)] w fun e w' => e = .returned (.int .u8 2) ∧ Below w.heap.size w w'
    change ∀ w, (Instr.typeAssert (tmV (.none)) _ _ true).run Tryd.prog w = _ at TX
    generalize tmV (.none) = vx at *
    go_enter Tryd.func25, Tryd.ntmps25
    go_wp2_with fail
    go_ret
    exact ⟨rfl, by go_grown⟩
def intB (n : Int) : ByteArray := ⟨(Lib.itoa n).toArray⟩
def boolB (b : Bool) : ByteArray := if b then ⟨#[116, 114, 117, 101]⟩ else ⟨#[102, 97, 108, 115, 101]⟩
set_option maxRecDepth 100000 in
theorem int_any (n : Int) (w : World) (h0 : -9223372036854775808 ≤ n) (h1 : n ≤ 9223372036854775807) (ht : TabV w) :
    Calls Tryd.prog 16 #[.int .i64 n] w fun e w' => e = .returned (.agg #[.string (intB n), .string ⟨#[104, 116, 116, 112, 58, 47, 47, 119, 119, 119, 46, 119, 51, 46, 111, 114, 103, 47, 50, 48, 48, 49, 47, 88, 77, 76, 83, 99, 104, 101, 109, 97, 35, 105, 110, 116, 101, 103, 101, 114]⟩, .string ⟨#[]⟩]) ∧ Below w.heap.size w w' := by
  have HC := Lib.hid (fun w ht => text_any n w h0 h1 ht)
  change Hid (∀ w, TabV w → Calls Tryd.prog 38 #[.int .i64 n] w fun e w' => e = .returned (.string (intB n)) ∧ Below w.heap.size w w') at HC
  have HT := Lib.hid ht
  generalize intB n = T at *
  clear ht
  go_enter Tryd.func16, Tryd.ntmps16
  go_wp2_with fail
  refine (HC.out _ (HT.out.below ((Below.refl w.heap.size w).alloc (Nat.le_refl _) _))).mono ?_
  rintro e w1 ⟨rfl, hb1⟩
  have c0 : w1.cell? ⟨w.heap.size, 0, none⟩ = some (.string ⟨#[]⟩) := cell_below (by simp [go_sem]) hb1
  have c1 : w1.cell? ⟨w.heap.size, 1, none⟩ = some (.string ⟨#[]⟩) := cell_below (by simp [go_sem]) hb1
  have c2 : w1.cell? ⟨w.heap.size, 2, none⟩ = some (.string ⟨#[]⟩) := cell_below (by simp [go_sem]) hb1
  have f0 : w1.frozen? ⟨w.heap.size, 0, none⟩ = false := (hb1.frozen (by simp)).trans (by simp [go_sem])
  have f1 : w1.frozen? ⟨w.heap.size, 1, none⟩ = false := (hb1.frozen (by simp)).trans (by simp [go_sem])
  have f2 : w1.frozen? ⟨w.heap.size, 2, none⟩ = false := (hb1.frozen (by simp)).trans (by simp [go_sem])
  have hbw : Below w.heap.size w w1 := ((Below.refl w.heap.size w).alloc (Nat.le_refl _) _).trans (hb1.mono (by simp))
  have HB := Lib.hid hbw
  clear hb1 hbw
  go_wp2_with fail
  refine bodyPost_ret (v := .agg #[.string T, .string ⟨#[104, 116, 116, 112, 58, 47, 47, 119, 119, 119, 46, 119, 51, 46, 111, 114, 103, 47, 50, 48, 48, 49, 47, 88, 77, 76, 83, 99, 104, 101, 109, 97, 35, 105, 110, 116, 101, 103, 101, 114]⟩, .string ⟨#[]⟩]) (by simp [results, Tryd.results16, go_sem, c0, c1, c2, World.cell?_setCell_same, World.cell?_setCell_other]) rfl ?_
  exact ⟨rfl, ((HB.out.setCell (p := ⟨w.heap.size, 0, none⟩) (by simp) _).setCell (p := ⟨w.heap.size, 1, none⟩) (by simp) _).setCell (p := ⟨w.heap.size, 2, none⟩) (by simp) _⟩
set_option maxRecDepth 100000 in
theorem bool_any (b : Bool) (w : World) : Calls Tryd.prog 17 #[.bool b] w fun e w' => e = .returned (.agg #[.string (boolB b), .string ⟨#[104, 116, 116, 112, 58, 47, 47, 119, 119, 119, 46, 119, 51, 46, 111, 114, 103, 47, 50, 48, 48, 49, 47, 88, 77, 76, 83, 99, 104, 101, 109, 97, 35, 98, 111, 111, 108, 101, 97, 110]⟩, .string ⟨#[]⟩]) ∧ Below w.heap.size w w' := by
  cases b with
  | true =>
    go_enter Tryd.func17, Tryd.ntmps17
    go_wp2
    refine bodyPost_ret (v := .agg #[.string ⟨#[116, 114, 117, 101]⟩, .string ⟨#[104, 116, 116, 112, 58, 47, 47, 119, 119, 119, 46, 119, 51, 46, 111, 114, 103, 47, 50, 48, 48, 49, 47, 88, 77, 76, 83, 99, 104, 101, 109, 97, 35, 98, 111, 111, 108, 101, 97, 110]⟩, .string ⟨#[]⟩]) (by simp [results, Tryd.results17, go_sem]) rfl ?_
    exact ⟨rfl, by go_grown⟩
  | false =>
    go_enter Tryd.func17, Tryd.ntmps17
    go_wp2
    refine bodyPost_ret (v := .agg #[.string ⟨#[102, 97, 108, 115, 101]⟩, .string ⟨#[104, 116, 116, 112, 58, 47, 47, 119, 119, 119, 46, 119, 51, 46, 111, 114, 103, 47, 50, 48, 48, 49, 47, 88, 77, 76, 83, 99, 104, 101, 109, 97, 35, 98, 111, 111, 108, 101, 97, 110]⟩, .string ⟨#[]⟩]) (by simp [results, Tryd.results17, go_sem]) rfl ?_
    exact ⟨rfl, by go_grown⟩
end Go.Proofs.YteeajhnbifpklaaDoor
