/- The contract of the document's Equal of terms over this seat's program. Every two terms (texts up to 6000 bytes). -/
import Derived.Test.YteeajhnbifpklaaDoorRfTerm
namespace Go.Proofs.YteeajhnbifpklaaDoor
open Go Go.RowKit
set_option linter.unusedVariables false
set_option linter.unusedSimpArgs false
set_option maxRecDepth 100000
/-- of one value, as the document says: 0 not, 1 it is, 2 neither -/
def requalV (x y : Tm) : Int :=
  if eqR x y then 1 else if kindV x = 2 ∧ kindV y = 2 then
    (if isInt (text1 x) && isInt (text1 y) then (if aiE x = 0 ∧ aiE y = 0 then (if aiN x = aiN y then 1 else 0) else 2)
     else if isBool (text1 x) && isBool (text1 y) then (if abE x = 0 ∧ abE y = 0 then (if abV x = abV y then 1 else 0) else 2)
     else if !knownV (text1 x) || !knownV (text1 y) then 2 else 0)
  else 0
theorem kinds_of {X : Tm} (h : Made X) : 0 ≤ kindV X ∧ kindV X ≤ 3 := by
  cases X with
  | blank s => exact ⟨by show (0 : Int) ≤ 0; omega, by show (0 : Int) ≤ 3; omega⟩
  | iri s => exact ⟨by show (0 : Int) ≤ 1; omega, by show (1 : Int) ≤ 3; omega⟩
  | lit s t l => exact ⟨by show (0 : Int) ≤ 2; omega, by show (2 : Int) ≤ 3; omega⟩
  | odd n => exact ⟨by show (0 : Int) ≤ 3; omega, by show (3 : Int) ≤ 3; omega⟩
  | none => exact ⟨by show (0 : Int) ≤ 3; omega, by show (3 : Int) ≤ 3; omega⟩
theorem order_kind {X Y : Tm} (h : orderV X Y = 0) : kindV X = kindV Y := by
  have h2 := order_eq X Y
  rw [h] at h2
  unfold eqR at h2
  have h3 : (decide (kindV X = kindV Y) && (sameS (text0 X) (text0 Y) && (sameS (text1 X) (text1 Y) && sameS (text2 X) (text2 Y)))) = true := h2.trans (by decide)
  simp only [Bool.and_eq_true, decide_eq_true_eq] at h3
  exact h3.1
theorem equal_vals (X Y : Tm) : 0 ≤ equalV X Y ∧ equalV X Y ≤ 2 := by
  have ht : ∀ b, 0 ≤ truthV b ∧ truthV b ≤ 2 := fun b => by cases b <;> exact ⟨by decide, by decide⟩
  unfold equalV bothI bothB
  repeat' split
  all_goals first | omega | exact ht _
theorem isLit_kind (X : Tm) : isLit X = decide (kindV X = 2) := by cases X <;> rfl
theorem lit1_text {X : Tm} (h : kindV X = 2) : lit1 X = text1 X := by
  obtain ⟨s, t, l, rfl⟩ := kind_lit h
  rfl
theorem requal_equal {X Y : Tm} (hx : Made X) (hy : Made Y) (h1 : kindV X < 3) (h2 : kindV Y < 3) : requalV X Y = equalV X Y := by
  unfold requalV equalV
  rw [eqT_eqR hx hy, decide_eq_true h1, Bool.and_true]
  by_cases he : eqR X Y = true
  · rw [if_pos he, if_pos he]
  · rw [if_neg he, if_neg he]
    by_cases hk : kindV X = 2 ∧ kindV Y = 2
    · rw [if_pos hk, isLit_kind, isLit_kind, decide_eq_true hk.1, decide_eq_true hk.2, if_pos (show (true && true) = true from rfl), lit1_text hk.1, lit1_text hk.2]
      unfold bothI bothB
      have e1 : ∀ a b : Int, (if a = b then (1 : Int) else 0) = truthV (a == b) := fun a b => by
        by_cases h : a = b
        · rw [if_pos h, h]; simp [truthV]
        · rw [if_neg h, show (a == b) = false by simpa using h]; rfl
      have e2 : ∀ a b : Bool, (if a = b then (1 : Int) else 0) = truthV (a == b) := fun a b => by cases a <;> cases b <;> rfl
      rw [e1, e2]
    · rw [if_neg hk, isLit_kind, isLit_kind, if_neg]
      intro hh
      simp only [Bool.and_eq_true, decide_eq_true_eq] at hh
      exact hk hh
theorem kept_eight {w w1 w2 : World} {a0 a1 a2 a3 a4 a5 a6 a7 : Addr} {v0 v1 v2 v3 v4 v5 v6 v7 : Value} (h : w1.cell? a0 = some v0 ∧ w1.cell? a1 = some v1 ∧ w1.cell? a2 = some v2 ∧ w1.cell? a3 = some v3 ∧ w1.cell? a4 = some v4 ∧ w1.cell? a5 = some v5 ∧ w1.cell? a6 = some v6 ∧ w1.cell? a7 = some v7 ∧ Below w.heap.size w w1) (hb : Below w1.heap.size w1 w2) :
    w2.cell? a0 = some v0 ∧ w2.cell? a1 = some v1 ∧ w2.cell? a2 = some v2 ∧ w2.cell? a3 = some v3 ∧ w2.cell? a4 = some v4 ∧ w2.cell? a5 = some v5 ∧ w2.cell? a6 = some v6 ∧ w2.cell? a7 = some v7 ∧ Below w.heap.size w w2 := by
  obtain ⟨h0, h1, h2, h3, h4, h5, h6, h7, z⟩ := h
  exact ⟨cell_below h0 hb, cell_below h1 hb, cell_below h2 hb, cell_below h3 hb, cell_below h4 hb, cell_below h5 hb, cell_below h6 hb, cell_below h7 hb, z.trans (hb.mono z.size)⟩
set_option maxHeartbeats 12800000 in
theorem requal_any (x y : Tm) (w : World) (hx : (text0 x).size ≤ 6000) (hy : (text0 y).size ≤ 6000) : Calls Tryd.prog 31 #[rV x, rV y] w fun e w' => e = .returned (.int .i64 (requalV x y)) ∧ Below w.heap.size w w' := by
  have QE := eq_ref x y
  have AX := Lib.hid (fun w => rasint_any x w hx)
  have AY := Lib.hid (fun w => rasint_any y w hy)
  have BX := Lib.hid (fun w => rasbool_any x w)
  have BY := Lib.hid (fun w => rasbool_any y w)
  have K1 := Lib.hid (rknown_any (text1 x))
  have K2 := Lib.hid (rknown_any (text1 y))
  have HM := Lib.hid (aiN_in x)
  have HN := Lib.hid (aiN_in y)
  unfold RaRes at AX AY
  unfold requalV
  obtain ⟨i1, hi1⟩ : ∃ i, isInt (text1 x) = i := ⟨_, rfl⟩
  obtain ⟨i2, hi2⟩ : ∃ i, isInt (text1 y) = i := ⟨_, rfl⟩
  obtain ⟨b1, hb1⟩ : ∃ i, isBool (text1 x) = i := ⟨_, rfl⟩
  obtain ⟨b2, hb2⟩ : ∃ i, isBool (text1 y) = i := ⟨_, rfl⟩
  rw [hi1, hi2, hb1, hb2]
  generalize knownV (text1 x) = k1 at *
  generalize knownV (text1 y) = k2 at *
  generalize aiN x = M at *
  generalize aiN y = N at *
  generalize aiE x = E1 at *
  generalize aiE y = E2 at *
  generalize abV x = V1 at *
  generalize abV y = V2 at *
  generalize abE x = F1 at *
  generalize abE y = F2 at *
  generalize eqR x y = q at *
  unfold isInt xIntB at hi1 hi2
  unfold isBool xBoolB at hb1 hb2
  unfold rV at *
  generalize kindV x = k at *
  generalize kindV y = k' at *
  generalize text0 x = s at *
  generalize text0 y = s' at *
  generalize text1 x = t at *
  generalize text1 y = t' at *
  generalize text2 x = l at *
  generalize text2 y = l' at *
  have QG : ∀ w, (Go.eqGuard BinOp.eql 23 (.tmp 13) (.tmp 14) (.agg #[.int .i64 k, .string s, .string t, .string l]) (.agg #[.int .i64 k', .string s', .string t', .string l'])).run Tryd.prog w = .ok () w := fun w => by kernel_rfl
  clear hx hy
  have HX : Hid (((w.alloc (.cells #[.int .i64 k, .string s, .string t, .string l] 23)).alloc (.cells #[.int .i64 k', .string s', .string t', .string l'] 23)).cell? ⟨w.heap.size, 0, none⟩ = some (.int .i64 k) ∧ ((w.alloc (.cells #[.int .i64 k, .string s, .string t, .string l] 23)).alloc (.cells #[.int .i64 k', .string s', .string t', .string l'] 23)).cell? ⟨w.heap.size, 1, none⟩ = some (.string s) ∧ ((w.alloc (.cells #[.int .i64 k, .string s, .string t, .string l] 23)).alloc (.cells #[.int .i64 k', .string s', .string t', .string l'] 23)).cell? ⟨w.heap.size, 2, none⟩ = some (.string t) ∧ ((w.alloc (.cells #[.int .i64 k, .string s, .string t, .string l] 23)).alloc (.cells #[.int .i64 k', .string s', .string t', .string l'] 23)).cell? ⟨w.heap.size, 3, none⟩ = some (.string l) ∧ ((w.alloc (.cells #[.int .i64 k, .string s, .string t, .string l] 23)).alloc (.cells #[.int .i64 k', .string s', .string t', .string l'] 23)).cell? ⟨w.heap.size + 1, 0, none⟩ = some (.int .i64 k') ∧ ((w.alloc (.cells #[.int .i64 k, .string s, .string t, .string l] 23)).alloc (.cells #[.int .i64 k', .string s', .string t', .string l'] 23)).cell? ⟨w.heap.size + 1, 1, none⟩ = some (.string s') ∧ ((w.alloc (.cells #[.int .i64 k, .string s, .string t, .string l] 23)).alloc (.cells #[.int .i64 k', .string s', .string t', .string l'] 23)).cell? ⟨w.heap.size + 1, 2, none⟩ = some (.string t') ∧ ((w.alloc (.cells #[.int .i64 k, .string s, .string t, .string l] 23)).alloc (.cells #[.int .i64 k', .string s', .string t', .string l'] 23)).cell? ⟨w.heap.size + 1, 3, none⟩ = some (.string l') ∧ Below w.heap.size w ((w.alloc (.cells #[.int .i64 k, .string s, .string t, .string l] 23)).alloc (.cells #[.int .i64 k', .string s', .string t', .string l'] 23))) := Lib.hid ⟨by simp [go_sem], by simp [go_sem], by simp [go_sem], by simp [go_sem], by simp [go_sem], by simp [go_sem], by simp [go_sem], by simp [go_sem], by go_grown⟩
  cases q with
  | true =>
    rw [if_pos rfl]
    clear hi1 hi2 hb1 hb2
    go_enter Tryd.func31, Tryd.ntmps31
    go_wp2_with fail
    go_ret
    exact ⟨rfl, by go_grown⟩
  | false =>
    rw [if_neg (by simp)]
    by_cases hk : k = 2
    · subst hk
      by_cases hk' : k' = 2
      · subst hk'
        rw [if_pos ⟨rfl, rfl⟩]
        cases i1 with
        | true =>
          cases i2 with
          | true =>
            rw [Bool.true_and, if_pos rfl]
            by_cases e1 : E1 = 0
            · subst e1
              by_cases e2 : E2 = 0
              · subst e2
                rw [if_pos ⟨rfl, rfl⟩]
                by_cases hmn : M = N
                · rw [if_pos hmn]
                  have HMN := Lib.hid (decide_eq_true hmn)
                  clear hmn hb1 hb2
                  go_enter Tryd.func31, Tryd.ntmps31
                  go_wp2_with fail
                  refine (AX.out _).mono ?_
                  rintro e w1 ⟨b1, rfl, hv1, hb1⟩
                  obtain ⟨s1, a1, n1, c1, rfl⟩ := big_form hv1
                  replace HX := Lib.hid (kept_eight HX.out hb1)
                  clear hb1
                  obtain ⟨g0, g1, g2, g3, g4, g5, g6, g7, gz⟩ := HX.out
                  have glt := block_lt_of_cell g4
                  have HV1 := Lib.hid hv1
                  clear hv1
                  go_wp2_with fail
                  have hga : Below w1.heap.size w1 (w1.alloc (.cells #[.bool s1, .slice a1 n1 c1] 47)) := (Below.refl _ _).alloc (Nat.le_refl _) _
                  replace HX := Lib.hid (kept_eight HX.out hga)
                  replace HV1 := Lib.hid (bigV_below HV1.out hga)
                  obtain ⟨w2, h2⟩ : ∃ w2, w2 = w1.alloc (.cells #[.bool s1, .slice a1 n1 c1] 47) := ⟨_, rfl⟩
                  have d0 : w2.cell? ⟨w1.heap.size, 0, none⟩ = some (.bool s1) := by rw [h2]; simp [go_sem]
                  have d1 : w2.cell? ⟨w1.heap.size, 1, none⟩ = some (.slice a1 n1 c1) := by rw [h2]; simp [go_sem]
                  rw [← h2] at HX HV1 ⊢
                  clear h2 hga gz glt g0 g1 g2 g3 g4 g5 g6 g7
                  generalize w1.heap.size = B1 at *
                  refine (AY.out _).mono ?_
                  rintro e w3 ⟨b2, rfl, hv2, hb2⟩
                  obtain ⟨s2, a2, n2, c2, rfl⟩ := big_form hv2
                  replace HX := Lib.hid (kept_eight HX.out hb2)
                  replace HV1 := Lib.hid (bigV_below HV1.out hb2)
                  replace d0 := cell_below d0 hb2
                  replace d1 := cell_below d1 hb2
                  have HV2 := Lib.hid hv2
                  clear hb2 hv2
                  obtain ⟨g0, g1, g2, g3, g4, g5, g6, g7, gz⟩ := HX.out
                  have glt := block_lt_of_cell g4
                  have dlt := block_lt_of_cell d0
                  go_wp2_with fail
                  have hga : Below w3.heap.size w3 (w3.alloc (.cells #[.bool s2, .slice a2 n2 c2] 47)) := (Below.refl _ _).alloc (Nat.le_refl _) _
                  have SM := bsame_any M N _ _ _ (lows M HM.out.1 HM.out.2) (lows N HN.out.1 HN.out.2) (bigV_below HV1.out hga) (bigV_below HV2.out hga)
                  rw [HMN.out] at SM
                  have HG := Lib.hid hga
                  have HGZ := Lib.hid gz
                  clear hga gz
                  refine SM.mono ?_
                  clear SM
                  rintro e w4 ⟨rfl, hb4⟩
                  have HB4 := Lib.hid hb4
                  clear hb4
                  go_wp2_with fail
                  go_ret
                  exact ⟨rfl, (HGZ.out.alloc HGZ.out.size _).trans (HB4.out.mono (by simp; have := HGZ.out.size; omega))⟩
                · rw [if_neg hmn]
                  have HMN := Lib.hid (decide_eq_false hmn)
                  clear hmn hb1 hb2
                  go_enter Tryd.func31, Tryd.ntmps31
                  go_wp2_with fail
                  refine (AX.out _).mono ?_
                  rintro e w1 ⟨b1, rfl, hv1, hb1⟩
                  obtain ⟨s1, a1, n1, c1, rfl⟩ := big_form hv1
                  replace HX := Lib.hid (kept_eight HX.out hb1)
                  clear hb1
                  obtain ⟨g0, g1, g2, g3, g4, g5, g6, g7, gz⟩ := HX.out
                  have glt := block_lt_of_cell g4
                  have HV1 := Lib.hid hv1
                  clear hv1
                  go_wp2_with fail
                  have hga : Below w1.heap.size w1 (w1.alloc (.cells #[.bool s1, .slice a1 n1 c1] 47)) := (Below.refl _ _).alloc (Nat.le_refl _) _
                  replace HX := Lib.hid (kept_eight HX.out hga)
                  replace HV1 := Lib.hid (bigV_below HV1.out hga)
                  obtain ⟨w2, h2⟩ : ∃ w2, w2 = w1.alloc (.cells #[.bool s1, .slice a1 n1 c1] 47) := ⟨_, rfl⟩
                  have d0 : w2.cell? ⟨w1.heap.size, 0, none⟩ = some (.bool s1) := by rw [h2]; simp [go_sem]
                  have d1 : w2.cell? ⟨w1.heap.size, 1, none⟩ = some (.slice a1 n1 c1) := by rw [h2]; simp [go_sem]
                  rw [← h2] at HX HV1 ⊢
                  clear h2 hga gz glt g0 g1 g2 g3 g4 g5 g6 g7
                  generalize w1.heap.size = B1 at *
                  refine (AY.out _).mono ?_
                  rintro e w3 ⟨b2, rfl, hv2, hb2⟩
                  obtain ⟨s2, a2, n2, c2, rfl⟩ := big_form hv2
                  replace HX := Lib.hid (kept_eight HX.out hb2)
                  replace HV1 := Lib.hid (bigV_below HV1.out hb2)
                  replace d0 := cell_below d0 hb2
                  replace d1 := cell_below d1 hb2
                  have HV2 := Lib.hid hv2
                  clear hb2 hv2
                  obtain ⟨g0, g1, g2, g3, g4, g5, g6, g7, gz⟩ := HX.out
                  have glt := block_lt_of_cell g4
                  have dlt := block_lt_of_cell d0
                  go_wp2_with fail
                  have hga : Below w3.heap.size w3 (w3.alloc (.cells #[.bool s2, .slice a2 n2 c2] 47)) := (Below.refl _ _).alloc (Nat.le_refl _) _
                  have SM := bsame_any M N _ _ _ (lows M HM.out.1 HM.out.2) (lows N HN.out.1 HN.out.2) (bigV_below HV1.out hga) (bigV_below HV2.out hga)
                  rw [HMN.out] at SM
                  have HG := Lib.hid hga
                  have HGZ := Lib.hid gz
                  clear hga gz
                  refine SM.mono ?_
                  clear SM
                  rintro e w4 ⟨rfl, hb4⟩
                  have HB4 := Lib.hid hb4
                  clear hb4
                  go_wp2_with fail
                  go_ret
                  exact ⟨rfl, (HGZ.out.alloc HGZ.out.size _).trans (HB4.out.mono (by simp; have := HGZ.out.size; omega))⟩
              · rw [if_neg (fun h => e2 h.2)]
                have h2 : (E2 != 0) = true := by simpa using e2
                clear e2 hb1 hb2
                go_enter Tryd.func31, Tryd.ntmps31
                go_wp2_with fail
                refine (AX.out _).mono ?_
                rintro e w1 ⟨b1, rfl, hv1, hb1⟩
                obtain ⟨s1, a1, n1, c1, rfl⟩ := big_form hv1
                replace HX := Lib.hid (kept_eight HX.out hb1)
                clear hb1
                obtain ⟨g0, g1, g2, g3, g4, g5, g6, g7, gz⟩ := HX.out
                have glt := block_lt_of_cell g4
                have HV1 := Lib.hid hv1
                clear hv1
                go_wp2_with fail
                have hga : Below w1.heap.size w1 (w1.alloc (.cells #[.bool s1, .slice a1 n1 c1] 47)) := (Below.refl _ _).alloc (Nat.le_refl _) _
                replace HX := Lib.hid (kept_eight HX.out hga)
                replace HV1 := Lib.hid (bigV_below HV1.out hga)
                obtain ⟨w2, h2⟩ : ∃ w2, w2 = w1.alloc (.cells #[.bool s1, .slice a1 n1 c1] 47) := ⟨_, rfl⟩
                have d0 : w2.cell? ⟨w1.heap.size, 0, none⟩ = some (.bool s1) := by rw [h2]; simp [go_sem]
                have d1 : w2.cell? ⟨w1.heap.size, 1, none⟩ = some (.slice a1 n1 c1) := by rw [h2]; simp [go_sem]
                rw [← h2] at HX HV1 ⊢
                clear h2 hga gz glt g0 g1 g2 g3 g4 g5 g6 g7
                generalize w1.heap.size = B1 at *
                refine (AY.out _).mono ?_
                rintro e w3 ⟨b2, rfl, hv2, hb2⟩
                obtain ⟨s2, a2, n2, c2, rfl⟩ := big_form hv2
                replace HX := Lib.hid (kept_eight HX.out hb2)
                replace HV1 := Lib.hid (bigV_below HV1.out hb2)
                replace d0 := cell_below d0 hb2
                replace d1 := cell_below d1 hb2
                have HV2 := Lib.hid hv2
                clear hb2 hv2
                obtain ⟨g0, g1, g2, g3, g4, g5, g6, g7, gz⟩ := HX.out
                have glt := block_lt_of_cell g4
                have dlt := block_lt_of_cell d0
                go_wp2_with fail
                go_ret
                exact ⟨rfl, gz.alloc gz.size _⟩
            · rw [if_neg (fun h => e1 h.1)]
              have h2 : (E1 != 0) = true := by simpa using e1
              clear e1 hb1 hb2
              go_enter Tryd.func31, Tryd.ntmps31
              go_wp2_with fail
              refine (AX.out _).mono ?_
              rintro e w1 ⟨b1, rfl, hv1, hb1⟩
              obtain ⟨s1, a1, n1, c1, rfl⟩ := big_form hv1
              replace HX := Lib.hid (kept_eight HX.out hb1)
              clear hb1
              obtain ⟨g0, g1, g2, g3, g4, g5, g6, g7, gz⟩ := HX.out
              have glt := block_lt_of_cell g4
              have HV1 := Lib.hid hv1
              clear hv1
              go_wp2_with fail
              have hga : Below w1.heap.size w1 (w1.alloc (.cells #[.bool s1, .slice a1 n1 c1] 47)) := (Below.refl _ _).alloc (Nat.le_refl _) _
              replace HX := Lib.hid (kept_eight HX.out hga)
              replace HV1 := Lib.hid (bigV_below HV1.out hga)
              obtain ⟨w2, h2⟩ : ∃ w2, w2 = w1.alloc (.cells #[.bool s1, .slice a1 n1 c1] 47) := ⟨_, rfl⟩
              have d0 : w2.cell? ⟨w1.heap.size, 0, none⟩ = some (.bool s1) := by rw [h2]; simp [go_sem]
              have d1 : w2.cell? ⟨w1.heap.size, 1, none⟩ = some (.slice a1 n1 c1) := by rw [h2]; simp [go_sem]
              rw [← h2] at HX HV1 ⊢
              clear h2 hga gz glt g0 g1 g2 g3 g4 g5 g6 g7
              generalize w1.heap.size = B1 at *
              refine (AY.out _).mono ?_
              rintro e w3 ⟨b2, rfl, hv2, hb2⟩
              obtain ⟨s2, a2, n2, c2, rfl⟩ := big_form hv2
              replace HX := Lib.hid (kept_eight HX.out hb2)
              replace HV1 := Lib.hid (bigV_below HV1.out hb2)
              replace d0 := cell_below d0 hb2
              replace d1 := cell_below d1 hb2
              have HV2 := Lib.hid hv2
              clear hb2 hv2
              obtain ⟨g0, g1, g2, g3, g4, g5, g6, g7, gz⟩ := HX.out
              have glt := block_lt_of_cell g4
              have dlt := block_lt_of_cell d0
              go_wp2_with fail
              go_ret
              exact ⟨rfl, gz.alloc gz.size _⟩
          | false =>
            rw [Bool.true_and, if_neg (by simp)]
            cases b1 with
            | true =>
              cases b2 with
              | true =>
                rw [Bool.true_and, if_pos rfl]
                by_cases f1 : F1 = 0
                · subst f1
                  by_cases f2 : F2 = 0
                  · subst f2
                    rw [if_pos ⟨rfl, rfl⟩]
                    by_cases hv : V1 = V2
                    · rw [if_pos hv]
                      have hv2 : (V1 == V2) = true := by simpa using hv
                      clear hv
                      go_enter Tryd.func31, Tryd.ntmps31
                      go_wp2_with fail
                      refine (BX.out _).mono ?_
                      rintro e w1 ⟨rfl, hb1⟩
                      replace HX := Lib.hid (kept_eight HX.out hb1)
                      clear hb1
                      obtain ⟨g0, g1, g2, g3, g4, g5, g6, g7, gz⟩ := HX.out
                      have glt := block_lt_of_cell g4
                      go_wp2_with fail
                      refine (BY.out _).mono ?_
                      rintro e w2 ⟨rfl, hb2⟩
                      have HGZ := Lib.hid (gz.trans (hb2.mono gz.size))
                      clear hb2 gz glt g0 g1 g2 g3 g4 g5 g6 g7 HX
                      go_wp2_with fail
                      go_ret
                      exact ⟨rfl, HGZ.out⟩
                    · rw [if_neg hv]
                      have hv2 : (V1 == V2) = false := by simpa using hv
                      clear hv
                      go_enter Tryd.func31, Tryd.ntmps31
                      go_wp2_with fail
                      refine (BX.out _).mono ?_
                      rintro e w1 ⟨rfl, hb1⟩
                      replace HX := Lib.hid (kept_eight HX.out hb1)
                      clear hb1
                      obtain ⟨g0, g1, g2, g3, g4, g5, g6, g7, gz⟩ := HX.out
                      have glt := block_lt_of_cell g4
                      go_wp2_with fail
                      refine (BY.out _).mono ?_
                      rintro e w2 ⟨rfl, hb2⟩
                      have HGZ := Lib.hid (gz.trans (hb2.mono gz.size))
                      clear hb2 gz glt g0 g1 g2 g3 g4 g5 g6 g7 HX
                      go_wp2_with fail
                      go_ret
                      exact ⟨rfl, HGZ.out⟩
                  · rw [if_neg (fun h => f2 h.2)]
                    have h2 : (F2 != 0) = true := by simpa using f2
                    clear f2
                    go_enter Tryd.func31, Tryd.ntmps31
                    go_wp2_with fail
                    refine (BX.out _).mono ?_
                    rintro e w1 ⟨rfl, hb1⟩
                    replace HX := Lib.hid (kept_eight HX.out hb1)
                    clear hb1
                    obtain ⟨g0, g1, g2, g3, g4, g5, g6, g7, gz⟩ := HX.out
                    have glt := block_lt_of_cell g4
                    go_wp2_with fail
                    refine (BY.out _).mono ?_
                    rintro e w2 ⟨rfl, hb2⟩
                    have HGZ := Lib.hid (gz.trans (hb2.mono gz.size))
                    clear hb2 gz glt g0 g1 g2 g3 g4 g5 g6 g7 HX
                    go_wp2_with fail
                    go_ret
                    exact ⟨rfl, HGZ.out⟩
                · rw [if_neg (fun h => f1 h.1)]
                  have h2 : (F1 != 0) = true := by simpa using f1
                  clear f1
                  go_enter Tryd.func31, Tryd.ntmps31
                  go_wp2_with fail
                  refine (BX.out _).mono ?_
                  rintro e w1 ⟨rfl, hb1⟩
                  replace HX := Lib.hid (kept_eight HX.out hb1)
                  clear hb1
                  obtain ⟨g0, g1, g2, g3, g4, g5, g6, g7, gz⟩ := HX.out
                  have glt := block_lt_of_cell g4
                  go_wp2_with fail
                  refine (BY.out _).mono ?_
                  rintro e w2 ⟨rfl, hb2⟩
                  have HGZ := Lib.hid (gz.trans (hb2.mono gz.size))
                  clear hb2 gz glt g0 g1 g2 g3 g4 g5 g6 g7 HX
                  go_wp2_with fail
                  go_ret
                  exact ⟨rfl, HGZ.out⟩
              | false =>
                rw [Bool.true_and, if_neg (by simp)]
                cases k1 with
                | true =>
                  cases k2 with
                  | true =>
                    go_enter Tryd.func31, Tryd.ntmps31
                    go_wp2_with (first | (go_at_call 55; ((with_reducible refine (K1.out _).mono ?_); rintro e w' ⟨rfl, rfl⟩)) | (go_at_call 55; ((with_reducible refine (K2.out _).mono ?_); rintro e w' ⟨rfl, rfl⟩)))
                    go_ret
                    exact ⟨rfl, by go_grown⟩
                  | false =>
                    go_enter Tryd.func31, Tryd.ntmps31
                    go_wp2_with (first | (go_at_call 55; ((with_reducible refine (K1.out _).mono ?_); rintro e w' ⟨rfl, rfl⟩)) | (go_at_call 55; ((with_reducible refine (K2.out _).mono ?_); rintro e w' ⟨rfl, rfl⟩)))
                    go_ret
                    exact ⟨rfl, by go_grown⟩
                | false =>
                  cases k2 with
                  | true =>
                    go_enter Tryd.func31, Tryd.ntmps31
                    go_wp2_with (first | (go_at_call 55; ((with_reducible refine (K1.out _).mono ?_); rintro e w' ⟨rfl, rfl⟩)) | (go_at_call 55; ((with_reducible refine (K2.out _).mono ?_); rintro e w' ⟨rfl, rfl⟩)))
                    go_ret
                    exact ⟨rfl, by go_grown⟩
                  | false =>
                    go_enter Tryd.func31, Tryd.ntmps31
                    go_wp2_with (first | (go_at_call 55; ((with_reducible refine (K1.out _).mono ?_); rintro e w' ⟨rfl, rfl⟩)) | (go_at_call 55; ((with_reducible refine (K2.out _).mono ?_); rintro e w' ⟨rfl, rfl⟩)))
                    go_ret
                    exact ⟨rfl, by go_grown⟩
            | false =>
              rw [Bool.false_and, if_neg (by simp)]
              cases k1 with
              | true =>
                cases k2 with
                | true =>
                  go_enter Tryd.func31, Tryd.ntmps31
                  go_wp2_with (first | (go_at_call 55; ((with_reducible refine (K1.out _).mono ?_); rintro e w' ⟨rfl, rfl⟩)) | (go_at_call 55; ((with_reducible refine (K2.out _).mono ?_); rintro e w' ⟨rfl, rfl⟩)))
                  go_ret
                  exact ⟨rfl, by go_grown⟩
                | false =>
                  go_enter Tryd.func31, Tryd.ntmps31
                  go_wp2_with (first | (go_at_call 55; ((with_reducible refine (K1.out _).mono ?_); rintro e w' ⟨rfl, rfl⟩)) | (go_at_call 55; ((with_reducible refine (K2.out _).mono ?_); rintro e w' ⟨rfl, rfl⟩)))
                  go_ret
                  exact ⟨rfl, by go_grown⟩
              | false =>
                cases k2 with
                | true =>
                  go_enter Tryd.func31, Tryd.ntmps31
                  go_wp2_with (first | (go_at_call 55; ((with_reducible refine (K1.out _).mono ?_); rintro e w' ⟨rfl, rfl⟩)) | (go_at_call 55; ((with_reducible refine (K2.out _).mono ?_); rintro e w' ⟨rfl, rfl⟩)))
                  go_ret
                  exact ⟨rfl, by go_grown⟩
                | false =>
                  go_enter Tryd.func31, Tryd.ntmps31
                  go_wp2_with (first | (go_at_call 55; ((with_reducible refine (K1.out _).mono ?_); rintro e w' ⟨rfl, rfl⟩)) | (go_at_call 55; ((with_reducible refine (K2.out _).mono ?_); rintro e w' ⟨rfl, rfl⟩)))
                  go_ret
                  exact ⟨rfl, by go_grown⟩
        | false =>
          rw [Bool.false_and, if_neg (by simp)]
          cases b1 with
          | true =>
            cases b2 with
            | true =>
              rw [Bool.true_and, if_pos rfl]
              by_cases f1 : F1 = 0
              · subst f1
                by_cases f2 : F2 = 0
                · subst f2
                  rw [if_pos ⟨rfl, rfl⟩]
                  by_cases hv : V1 = V2
                  · rw [if_pos hv]
                    have hv2 : (V1 == V2) = true := by simpa using hv
                    clear hv
                    go_enter Tryd.func31, Tryd.ntmps31
                    go_wp2_with fail
                    refine (BX.out _).mono ?_
                    rintro e w1 ⟨rfl, hb1⟩
                    replace HX := Lib.hid (kept_eight HX.out hb1)
                    clear hb1
                    obtain ⟨g0, g1, g2, g3, g4, g5, g6, g7, gz⟩ := HX.out
                    have glt := block_lt_of_cell g4
                    go_wp2_with fail
                    refine (BY.out _).mono ?_
                    rintro e w2 ⟨rfl, hb2⟩
                    have HGZ := Lib.hid (gz.trans (hb2.mono gz.size))
                    clear hb2 gz glt g0 g1 g2 g3 g4 g5 g6 g7 HX
                    go_wp2_with fail
                    go_ret
                    exact ⟨rfl, HGZ.out⟩
                  · rw [if_neg hv]
                    have hv2 : (V1 == V2) = false := by simpa using hv
                    clear hv
                    go_enter Tryd.func31, Tryd.ntmps31
                    go_wp2_with fail
                    refine (BX.out _).mono ?_
                    rintro e w1 ⟨rfl, hb1⟩
                    replace HX := Lib.hid (kept_eight HX.out hb1)
                    clear hb1
                    obtain ⟨g0, g1, g2, g3, g4, g5, g6, g7, gz⟩ := HX.out
                    have glt := block_lt_of_cell g4
                    go_wp2_with fail
                    refine (BY.out _).mono ?_
                    rintro e w2 ⟨rfl, hb2⟩
                    have HGZ := Lib.hid (gz.trans (hb2.mono gz.size))
                    clear hb2 gz glt g0 g1 g2 g3 g4 g5 g6 g7 HX
                    go_wp2_with fail
                    go_ret
                    exact ⟨rfl, HGZ.out⟩
                · rw [if_neg (fun h => f2 h.2)]
                  have h2 : (F2 != 0) = true := by simpa using f2
                  clear f2
                  go_enter Tryd.func31, Tryd.ntmps31
                  go_wp2_with fail
                  refine (BX.out _).mono ?_
                  rintro e w1 ⟨rfl, hb1⟩
                  replace HX := Lib.hid (kept_eight HX.out hb1)
                  clear hb1
                  obtain ⟨g0, g1, g2, g3, g4, g5, g6, g7, gz⟩ := HX.out
                  have glt := block_lt_of_cell g4
                  go_wp2_with fail
                  refine (BY.out _).mono ?_
                  rintro e w2 ⟨rfl, hb2⟩
                  have HGZ := Lib.hid (gz.trans (hb2.mono gz.size))
                  clear hb2 gz glt g0 g1 g2 g3 g4 g5 g6 g7 HX
                  go_wp2_with fail
                  go_ret
                  exact ⟨rfl, HGZ.out⟩
              · rw [if_neg (fun h => f1 h.1)]
                have h2 : (F1 != 0) = true := by simpa using f1
                clear f1
                go_enter Tryd.func31, Tryd.ntmps31
                go_wp2_with fail
                refine (BX.out _).mono ?_
                rintro e w1 ⟨rfl, hb1⟩
                replace HX := Lib.hid (kept_eight HX.out hb1)
                clear hb1
                obtain ⟨g0, g1, g2, g3, g4, g5, g6, g7, gz⟩ := HX.out
                have glt := block_lt_of_cell g4
                go_wp2_with fail
                refine (BY.out _).mono ?_
                rintro e w2 ⟨rfl, hb2⟩
                have HGZ := Lib.hid (gz.trans (hb2.mono gz.size))
                clear hb2 gz glt g0 g1 g2 g3 g4 g5 g6 g7 HX
                go_wp2_with fail
                go_ret
                exact ⟨rfl, HGZ.out⟩
            | false =>
              rw [Bool.true_and, if_neg (by simp)]
              cases k1 with
              | true =>
                cases k2 with
                | true =>
                  go_enter Tryd.func31, Tryd.ntmps31
                  go_wp2_with (first | (go_at_call 55; ((with_reducible refine (K1.out _).mono ?_); rintro e w' ⟨rfl, rfl⟩)) | (go_at_call 55; ((with_reducible refine (K2.out _).mono ?_); rintro e w' ⟨rfl, rfl⟩)))
                  go_ret
                  exact ⟨rfl, by go_grown⟩
                | false =>
                  go_enter Tryd.func31, Tryd.ntmps31
                  go_wp2_with (first | (go_at_call 55; ((with_reducible refine (K1.out _).mono ?_); rintro e w' ⟨rfl, rfl⟩)) | (go_at_call 55; ((with_reducible refine (K2.out _).mono ?_); rintro e w' ⟨rfl, rfl⟩)))
                  go_ret
                  exact ⟨rfl, by go_grown⟩
              | false =>
                cases k2 with
                | true =>
                  go_enter Tryd.func31, Tryd.ntmps31
                  go_wp2_with (first | (go_at_call 55; ((with_reducible refine (K1.out _).mono ?_); rintro e w' ⟨rfl, rfl⟩)) | (go_at_call 55; ((with_reducible refine (K2.out _).mono ?_); rintro e w' ⟨rfl, rfl⟩)))
                  go_ret
                  exact ⟨rfl, by go_grown⟩
                | false =>
                  go_enter Tryd.func31, Tryd.ntmps31
                  go_wp2_with (first | (go_at_call 55; ((with_reducible refine (K1.out _).mono ?_); rintro e w' ⟨rfl, rfl⟩)) | (go_at_call 55; ((with_reducible refine (K2.out _).mono ?_); rintro e w' ⟨rfl, rfl⟩)))
                  go_ret
                  exact ⟨rfl, by go_grown⟩
          | false =>
            rw [Bool.false_and, if_neg (by simp)]
            cases k1 with
            | true =>
              cases k2 with
              | true =>
                go_enter Tryd.func31, Tryd.ntmps31
                go_wp2_with (first | (go_at_call 55; ((with_reducible refine (K1.out _).mono ?_); rintro e w' ⟨rfl, rfl⟩)) | (go_at_call 55; ((with_reducible refine (K2.out _).mono ?_); rintro e w' ⟨rfl, rfl⟩)))
                go_ret
                exact ⟨rfl, by go_grown⟩
              | false =>
                go_enter Tryd.func31, Tryd.ntmps31
                go_wp2_with (first | (go_at_call 55; ((with_reducible refine (K1.out _).mono ?_); rintro e w' ⟨rfl, rfl⟩)) | (go_at_call 55; ((with_reducible refine (K2.out _).mono ?_); rintro e w' ⟨rfl, rfl⟩)))
                go_ret
                exact ⟨rfl, by go_grown⟩
            | false =>
              cases k2 with
              | true =>
                go_enter Tryd.func31, Tryd.ntmps31
                go_wp2_with (first | (go_at_call 55; ((with_reducible refine (K1.out _).mono ?_); rintro e w' ⟨rfl, rfl⟩)) | (go_at_call 55; ((with_reducible refine (K2.out _).mono ?_); rintro e w' ⟨rfl, rfl⟩)))
                go_ret
                exact ⟨rfl, by go_grown⟩
              | false =>
                go_enter Tryd.func31, Tryd.ntmps31
                go_wp2_with (first | (go_at_call 55; ((with_reducible refine (K1.out _).mono ?_); rintro e w' ⟨rfl, rfl⟩)) | (go_at_call 55; ((with_reducible refine (K2.out _).mono ?_); rintro e w' ⟨rfl, rfl⟩)))
                go_ret
                exact ⟨rfl, by go_grown⟩
      · rw [if_neg (fun h => hk' h.2)]
        have h2 : (k' != 2) = true := by simpa using hk'
        clear hk' hi1 hi2 hb1 hb2
        go_enter Tryd.func31, Tryd.ntmps31
        go_wp2_with fail
        go_ret
        exact ⟨rfl, by go_grown⟩
    · rw [if_neg (fun h => hk h.1)]
      have h2 : (k != 2) = true := by simpa using hk
      clear hk hi1 hi2 hb1 hb2
      go_enter Tryd.func31, Tryd.ntmps31
      go_wp2_with fail
      go_ret
      exact ⟨rfl, by go_grown⟩
end Go.Proofs.YteeajhnbifpklaaDoor
