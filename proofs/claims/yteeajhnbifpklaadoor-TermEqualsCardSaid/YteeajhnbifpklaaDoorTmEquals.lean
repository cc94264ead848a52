/- The law TermEquals: its walk. Every three terms. -/
import Derived.Test.YteeajhnbifpklaaDoorTmReal
import Derived.Test.YteeajhnbifpklaaDoorTvLaid
import Derived.Test.YteeajhnbifpklaaDoorTmOpen
import Derived.Deep.RegionHeld3
namespace Go.Proofs.YteeajhnbifpklaaDoor
open Go Go.RowKit
set_option linter.unusedVariables false
set_option linter.unusedSimpArgs false
theorem sameS_eq {x y : ByteArray} (h : sameS x y = true) : x = y := by
  rw [sameS_data] at h
  have := eq_of_beq h
  obtain ⟨⟨a⟩⟩ := x
  obtain ⟨⟨b⟩⟩ := y
  simp at this
  rw [this]
theorem eqT_eq {x y : Tm} (h : eqT x y = true) : x = y := by
  cases x <;> cases y <;> first | (cases h; done) | skip
  · rw [sameS_eq h]
  · rw [sameS_eq h]
  · simp only [eqT, Bool.and_eq_true] at h
    rw [sameS_eq h.1, sameS_eq h.2.1, sameS_eq h.2.2]
def ValI (x y : Tm) : Prop := isLit x = true ∧ isLit y = true ∧ isInt (lit1 x) = true ∧ isInt (lit1 y) = true ∧ aiE x = 0 ∧ aiE y = 0 ∧ aiN x = aiN y
def ValB (x y : Tm) : Prop := isLit x = true ∧ isLit y = true ∧ isBool (lit1 x) = true ∧ isBool (lit1 y) = true ∧ abE x = 0 ∧ abE y = 0 ∧ abV x = abV y
theorem not_both {t : ByteArray} (h1 : isInt t = true) (h2 : isBool t = true) : False := by
  unfold isInt at h1
  unfold isBool at h2
  have := (eq_of_beq h1).symm.trans (eq_of_beq h2)
  exact absurd this (by decide +kernel)
theorem truthV_one {b : Bool} (h : truthV b = 1) : b = true := by cases b <;> first | rfl | cases h
theorem equal_one {x y : Tm} (h : equalV x y = 1) : x = y ∨ ValI x y ∨ ValB x y := by
  unfold equalV at h
  by_cases h1 : eqT x y = true
  · exact .inl (eqT_eq h1)
  · rw [if_neg h1] at h
    by_cases h2 : (isLit x && isLit y) = true
    · rw [if_pos h2] at h
      simp only [Bool.and_eq_true] at h2
      by_cases h3 : (isInt (lit1 x) && isInt (lit1 y)) = true
      · rw [if_pos h3] at h
        simp only [Bool.and_eq_true] at h3
        unfold bothI at h
        by_cases h4 : aiE x = 0 ∧ aiE y = 0
        · rw [if_pos h4] at h
          exact .inr (.inl ⟨h2.1, h2.2, h3.1, h3.2, h4.1, h4.2, eq_of_beq (truthV_one h)⟩)
        · rw [if_neg h4] at h; cases h
      · rw [if_neg h3] at h
        by_cases h5 : (isBool (lit1 x) && isBool (lit1 y)) = true
        · rw [if_pos h5] at h
          simp only [Bool.and_eq_true] at h5
          unfold bothB at h
          by_cases h4 : abE x = 0 ∧ abE y = 0
          · rw [if_pos h4] at h
            exact .inr (.inr ⟨h2.1, h2.2, h5.1, h5.2, h4.1, h4.2, eq_of_beq (truthV_one h)⟩)
          · rw [if_neg h4] at h; cases h
        · rw [if_neg h5] at h
          split at h <;> cases h
    · rw [if_neg h2] at h; cases h
theorem one_valI {x y : Tm} (h : ValI x y) : equalV x y = 1 := by
  obtain ⟨h1, h2, h3, h4, h5, h6, h7⟩ := h
  unfold equalV bothI
  by_cases h0 : eqT x y = true
  · rw [if_pos h0]
  · rw [if_neg h0, h1, h2, h3, h4, h5, h6, h7]; simp [truthV]
theorem one_valB {x y : Tm} (h : ValB x y) : equalV x y = 1 := by
  obtain ⟨h1, h2, h3, h4, h5, h6, h7⟩ := h
  have n1 : isInt (lit1 x) = false := by
    cases hh : isInt (lit1 x)
    · rfl
    · exact (not_both hh h3).elim
  unfold equalV bothB
  by_cases h0 : eqT x y = true
  · rw [if_pos h0]
  · rw [if_neg h0, h1, h2, n1, h3, h4, h5, h6, h7]; simp [truthV]
theorem equal_trans {x y z : Tm} (h : equalV x y = 1) (h' : equalV y z = 1) : equalV x z = 1 := by
  rcases equal_one h with rfl | hi | hb
  · exact h'
  · rcases equal_one h' with rfl | hi' | hb'
    · exact h
    · exact one_valI ⟨hi.1, hi'.2.1, hi.2.2.1, hi'.2.2.2.1, hi.2.2.2.2.1, hi'.2.2.2.2.2.1, hi.2.2.2.2.2.2.trans hi'.2.2.2.2.2.2⟩
    · exact (not_both hi.2.2.2.1 hb'.2.2.1).elim
  · rcases equal_one h' with rfl | hi' | hb'
    · exact h
    · exact (not_both hi'.2.2.1 hb.2.2.2.1).elim
    · exact one_valB ⟨hb.1, hb'.2.1, hb.2.2.1, hb'.2.2.2.1, hb.2.2.2.2.1, hb'.2.2.2.2.2.1, hb.2.2.2.2.2.2.trans hb'.2.2.2.2.2.2⟩
theorem sized_of {k : Int} {x t l : ByteArray} (h : shortV x t l = true) : Sized (termOf k x t l) := by
  unfold shortV at h
  simp only [Bool.and_eq_true, decide_eq_true_eq] at h
  unfold termOf
  split
  · show x.size ≤ 1000000; omega
  · split
    · show x.size ≤ 1000000; omega
    · split
      · exact ⟨by omega, by omega, by omega⟩
      · trivial
theorem kept_ref {w w1 w2 : World} {a0 a1 a2 a3 a4 a5 a6 a7 a8 a9 a10 a11 : Addr} {v0 v1 v2 v3 v4 v5 v6 v7 v8 v9 v10 v11 : Value} (h : w1.cell? a0 = some v0 ∧ w1.cell? a1 = some v1 ∧ w1.cell? a2 = some v2 ∧ w1.cell? a3 = some v3 ∧ w1.cell? a4 = some v4 ∧ w1.cell? a5 = some v5 ∧ w1.cell? a6 = some v6 ∧ w1.cell? a7 = some v7 ∧ w1.cell? a8 = some v8 ∧ w1.cell? a9 = some v9 ∧ w1.cell? a10 = some v10 ∧ w1.cell? a11 = some v11 ∧ Below w.heap.size w w1) (hb : Below w1.heap.size w1 w2) :
    w2.cell? a0 = some v0 ∧ w2.cell? a1 = some v1 ∧ w2.cell? a2 = some v2 ∧ w2.cell? a3 = some v3 ∧ w2.cell? a4 = some v4 ∧ w2.cell? a5 = some v5 ∧ w2.cell? a6 = some v6 ∧ w2.cell? a7 = some v7 ∧ w2.cell? a8 = some v8 ∧ w2.cell? a9 = some v9 ∧ w2.cell? a10 = some v10 ∧ w2.cell? a11 = some v11 ∧ Below w.heap.size w w2 := by
  obtain ⟨h0, h1, h2, h3, h4, h5, h6, h7, h8, h9, h10, h11, z⟩ := h
  exact ⟨cell_below h0 hb, cell_below h1 hb, cell_below h2 hb, cell_below h3 hb, cell_below h4 hb, cell_below h5 hb, cell_below h6 hb, cell_below h7 hb, cell_below h8 hb, cell_below h9 hb, cell_below h10 hb, cell_below h11 hb, z.trans (hb.mono z.size)⟩
set_option maxRecDepth 100000 in
set_option maxHeartbeats 6400000 in
theorem equals_walk (k k2 k3 : Int) (x t l x2 t2 l2 x3 t3 l3 : ByteArray) (w : World) (hv : ErrV w) :
    Calls Tryd.prog 3 #[.agg #[.int .i64 k, .string x, .string t, .string l], .agg #[.int .i64 k2, .string x2, .string t2, .string l2], .agg #[.int .i64 k3, .string x3, .string t3, .string l3]] w fun e w' => e = .returned (.bool true) ∧ Below w.heap.size w w' := by
  have AW := Lib.hid (fun w hv => awake3_any w hv)
  have HEV := Lib.hid (fun w' (hb : Below w.heap.size w w') => hv.below hb)
  clear hv
  have SH0 := Lib.hid (short_any k x t l)
  have PR0 := Lib.hid (plainr_any k x t l)
  have RR0 := Lib.hid (real_plain k x t l)
  have SH1 := Lib.hid (short_any k2 x2 t2 l2)
  have PR1 := Lib.hid (plainr_any k2 x2 t2 l2)
  have RR1 := Lib.hid (real_plain k2 x2 t2 l2)
  have SH2 := Lib.hid (short_any k3 x3 t3 l3)
  have PR2 := Lib.hid (plainr_any k3 x3 t3 l3)
  have RR2 := Lib.hid (real_plain k3 x3 t3 l3)
  obtain ⟨b1, hb1⟩ : ∃ b, b = shortV x t l := ⟨_, rfl⟩
  obtain ⟨b2, hb2⟩ : ∃ b, b = shortV x2 t2 l2 := ⟨_, rfl⟩
  obtain ⟨b3, hb3⟩ : ∃ b, b = shortV x3 t3 l3 := ⟨_, rfl⟩
  rw [← hb1] at SH0
  rw [← hb2] at SH1
  rw [← hb3] at SH2
  have HB1 := Lib.hid hb1
  have HB2 := Lib.hid hb2
  have HB3 := Lib.hid hb3
  clear hb1 hb2 hb3
  have HX0 : Hid ((((w.alloc (.cells #[.int .i64 k, .string x, .string t, .string l] 23)).alloc (.cells #[.int .i64 k2, .string x2, .string t2, .string l2] 23)).alloc (.cells #[.int .i64 k3, .string x3, .string t3, .string l3] 23)).cell? ⟨w.heap.size, 0, none⟩ = some (.int .i64 k) ∧ (((w.alloc (.cells #[.int .i64 k, .string x, .string t, .string l] 23)).alloc (.cells #[.int .i64 k2, .string x2, .string t2, .string l2] 23)).alloc (.cells #[.int .i64 k3, .string x3, .string t3, .string l3] 23)).cell? ⟨w.heap.size, 1, none⟩ = some (.string x) ∧ (((w.alloc (.cells #[.int .i64 k, .string x, .string t, .string l] 23)).alloc (.cells #[.int .i64 k2, .string x2, .string t2, .string l2] 23)).alloc (.cells #[.int .i64 k3, .string x3, .string t3, .string l3] 23)).cell? ⟨w.heap.size, 2, none⟩ = some (.string t) ∧ (((w.alloc (.cells #[.int .i64 k, .string x, .string t, .string l] 23)).alloc (.cells #[.int .i64 k2, .string x2, .string t2, .string l2] 23)).alloc (.cells #[.int .i64 k3, .string x3, .string t3, .string l3] 23)).cell? ⟨w.heap.size, 3, none⟩ = some (.string l) ∧ (((w.alloc (.cells #[.int .i64 k, .string x, .string t, .string l] 23)).alloc (.cells #[.int .i64 k2, .string x2, .string t2, .string l2] 23)).alloc (.cells #[.int .i64 k3, .string x3, .string t3, .string l3] 23)).cell? ⟨w.heap.size + 1, 0, none⟩ = some (.int .i64 k2) ∧ (((w.alloc (.cells #[.int .i64 k, .string x, .string t, .string l] 23)).alloc (.cells #[.int .i64 k2, .string x2, .string t2, .string l2] 23)).alloc (.cells #[.int .i64 k3, .string x3, .string t3, .string l3] 23)).cell? ⟨w.heap.size + 1, 1, none⟩ = some (.string x2) ∧ (((w.alloc (.cells #[.int .i64 k, .string x, .string t, .string l] 23)).alloc (.cells #[.int .i64 k2, .string x2, .string t2, .string l2] 23)).alloc (.cells #[.int .i64 k3, .string x3, .string t3, .string l3] 23)).cell? ⟨w.heap.size + 1, 2, none⟩ = some (.string t2) ∧ (((w.alloc (.cells #[.int .i64 k, .string x, .string t, .string l] 23)).alloc (.cells #[.int .i64 k2, .string x2, .string t2, .string l2] 23)).alloc (.cells #[.int .i64 k3, .string x3, .string t3, .string l3] 23)).cell? ⟨w.heap.size + 1, 3, none⟩ = some (.string l2) ∧ (((w.alloc (.cells #[.int .i64 k, .string x, .string t, .string l] 23)).alloc (.cells #[.int .i64 k2, .string x2, .string t2, .string l2] 23)).alloc (.cells #[.int .i64 k3, .string x3, .string t3, .string l3] 23)).cell? ⟨w.heap.size + 2, 0, none⟩ = some (.int .i64 k3) ∧ (((w.alloc (.cells #[.int .i64 k, .string x, .string t, .string l] 23)).alloc (.cells #[.int .i64 k2, .string x2, .string t2, .string l2] 23)).alloc (.cells #[.int .i64 k3, .string x3, .string t3, .string l3] 23)).cell? ⟨w.heap.size + 2, 1, none⟩ = some (.string x3) ∧ (((w.alloc (.cells #[.int .i64 k, .string x, .string t, .string l] 23)).alloc (.cells #[.int .i64 k2, .string x2, .string t2, .string l2] 23)).alloc (.cells #[.int .i64 k3, .string x3, .string t3, .string l3] 23)).cell? ⟨w.heap.size + 2, 2, none⟩ = some (.string t3) ∧ (((w.alloc (.cells #[.int .i64 k, .string x, .string t, .string l] 23)).alloc (.cells #[.int .i64 k2, .string x2, .string t2, .string l2] 23)).alloc (.cells #[.int .i64 k3, .string x3, .string t3, .string l3] 23)).cell? ⟨w.heap.size + 2, 3, none⟩ = some (.string l3) ∧ Below w.heap.size w (((w.alloc (.cells #[.int .i64 k, .string x, .string t, .string l] 23)).alloc (.cells #[.int .i64 k2, .string x2, .string t2, .string l2] 23)).alloc (.cells #[.int .i64 k3, .string x3, .string t3, .string l3] 23))) := Lib.hid ⟨by simp [go_sem], by simp [go_sem], by simp [go_sem], by simp [go_sem], by simp [go_sem], by simp [go_sem], by simp [go_sem], by simp [go_sem], by simp [go_sem], by simp [go_sem], by simp [go_sem], by simp [go_sem], by go_grown⟩
  cases b1 with
  | false =>
    go_enter Tryd.func3, Tryd.ntmps3
    go_wp2_with fail
    refine (AW.out _ (HEV.out _ HX0.out.2.2.2.2.2.2.2.2.2.2.2.2)).mono ?_
    rintro e w1 ⟨rfl, hbn⟩
    have HX := Lib.hid (kept_ref HX0.out hbn)
    clear hbn HX0
    obtain ⟨c0, c1, c2, c3, c4, c5, c6, c7, c8, c9, c10, c11, cz⟩ := HX.out
    go_wp2_with fail
    refine (SH0.out _).mono ?_
    rintro e wn ⟨rfl, hbn⟩
    replace HX := Lib.hid (kept_ref HX.out hbn)
    clear hbn cz c0 c1 c2 c3 c4 c5 c6 c7 c8 c9 c10 c11
    obtain ⟨c0, c1, c2, c3, c4, c5, c6, c7, c8, c9, c10, c11, cz⟩ := HX.out
    go_wp2_with fail
    refine (AW.out _ (HEV.out _ cz)).mono ?_
    rintro e wn ⟨rfl, hbn⟩
    go_wp2_with fail
    go_ret
    exact ⟨rfl, cz.trans (hbn.mono cz.size)⟩
  | true =>
    cases b2 with
    | false =>
      go_enter Tryd.func3, Tryd.ntmps3
      go_wp2_with fail
      refine (AW.out _ (HEV.out _ HX0.out.2.2.2.2.2.2.2.2.2.2.2.2)).mono ?_
      rintro e w1 ⟨rfl, hbn⟩
      have HX := Lib.hid (kept_ref HX0.out hbn)
      clear hbn HX0
      obtain ⟨c0, c1, c2, c3, c4, c5, c6, c7, c8, c9, c10, c11, cz⟩ := HX.out
      go_wp2_with fail
      refine (SH0.out _).mono ?_
      rintro e wn ⟨rfl, hbn⟩
      replace HX := Lib.hid (kept_ref HX.out hbn)
      clear hbn cz c0 c1 c2 c3 c4 c5 c6 c7 c8 c9 c10 c11
      obtain ⟨c0, c1, c2, c3, c4, c5, c6, c7, c8, c9, c10, c11, cz⟩ := HX.out
      go_wp2_with fail
      refine (SH1.out _).mono ?_
      rintro e wn ⟨rfl, hbn⟩
      replace HX := Lib.hid (kept_ref HX.out hbn)
      clear hbn cz c0 c1 c2 c3 c4 c5 c6 c7 c8 c9 c10 c11
      obtain ⟨c0, c1, c2, c3, c4, c5, c6, c7, c8, c9, c10, c11, cz⟩ := HX.out
      go_wp2_with fail
      refine (AW.out _ (HEV.out _ cz)).mono ?_
      rintro e wn ⟨rfl, hbn⟩
      go_wp2_with fail
      go_ret
      exact ⟨rfl, cz.trans (hbn.mono cz.size)⟩
    | true =>
      cases b3 with
      | false =>
        go_enter Tryd.func3, Tryd.ntmps3
        go_wp2_with fail
        refine (AW.out _ (HEV.out _ HX0.out.2.2.2.2.2.2.2.2.2.2.2.2)).mono ?_
        rintro e w1 ⟨rfl, hbn⟩
        have HX := Lib.hid (kept_ref HX0.out hbn)
        clear hbn HX0
        obtain ⟨c0, c1, c2, c3, c4, c5, c6, c7, c8, c9, c10, c11, cz⟩ := HX.out
        go_wp2_with fail
        refine (SH0.out _).mono ?_
        rintro e wn ⟨rfl, hbn⟩
        replace HX := Lib.hid (kept_ref HX.out hbn)
        clear hbn cz c0 c1 c2 c3 c4 c5 c6 c7 c8 c9 c10 c11
        obtain ⟨c0, c1, c2, c3, c4, c5, c6, c7, c8, c9, c10, c11, cz⟩ := HX.out
        go_wp2_with fail
        refine (SH1.out _).mono ?_
        rintro e wn ⟨rfl, hbn⟩
        replace HX := Lib.hid (kept_ref HX.out hbn)
        clear hbn cz c0 c1 c2 c3 c4 c5 c6 c7 c8 c9 c10 c11
        obtain ⟨c0, c1, c2, c3, c4, c5, c6, c7, c8, c9, c10, c11, cz⟩ := HX.out
        go_wp2_with fail
        refine (SH2.out _).mono ?_
        rintro e wn ⟨rfl, hbn⟩
        replace HX := Lib.hid (kept_ref HX.out hbn)
        clear hbn cz c0 c1 c2 c3 c4 c5 c6 c7 c8 c9 c10 c11
        obtain ⟨c0, c1, c2, c3, c4, c5, c6, c7, c8, c9, c10, c11, cz⟩ := HX.out
        go_wp2_with fail
        refine (AW.out _ (HEV.out _ cz)).mono ?_
        rintro e wn ⟨rfl, hbn⟩
        go_wp2_with fail
        go_ret
        exact ⟨rfl, cz.trans (hbn.mono cz.size)⟩
      | true =>
        go_enter Tryd.func3, Tryd.ntmps3
        go_wp2_with fail
        refine (AW.out _ (HEV.out _ HX0.out.2.2.2.2.2.2.2.2.2.2.2.2)).mono ?_
        rintro e w1 ⟨rfl, hbn⟩
        have HX := Lib.hid (kept_ref HX0.out hbn)
        clear hbn HX0
        obtain ⟨c0, c1, c2, c3, c4, c5, c6, c7, c8, c9, c10, c11, cz⟩ := HX.out
        go_wp2_with fail
        refine (SH0.out _).mono ?_
        rintro e wn ⟨rfl, hbn⟩
        replace HX := Lib.hid (kept_ref HX.out hbn)
        clear hbn cz c0 c1 c2 c3 c4 c5 c6 c7 c8 c9 c10 c11
        obtain ⟨c0, c1, c2, c3, c4, c5, c6, c7, c8, c9, c10, c11, cz⟩ := HX.out
        go_wp2_with fail
        refine (SH1.out _).mono ?_
        rintro e wn ⟨rfl, hbn⟩
        replace HX := Lib.hid (kept_ref HX.out hbn)
        clear hbn cz c0 c1 c2 c3 c4 c5 c6 c7 c8 c9 c10 c11
        obtain ⟨c0, c1, c2, c3, c4, c5, c6, c7, c8, c9, c10, c11, cz⟩ := HX.out
        go_wp2_with fail
        refine (SH2.out _).mono ?_
        rintro e wn ⟨rfl, hbn⟩
        replace HX := Lib.hid (kept_ref HX.out hbn)
        clear hbn cz c0 c1 c2 c3 c4 c5 c6 c7 c8 c9 c10 c11
        obtain ⟨c0, c1, c2, c3, c4, c5, c6, c7, c8, c9, c10, c11, cz⟩ := HX.out
        go_wp2_with fail
        refine wp_region_held_drew (S := fun w' => w'.cell? ⟨w.heap.size, 0, none⟩ = some (.int .i64 k) ∧ w'.cell? ⟨w.heap.size, 1, none⟩ = some (.string x) ∧ w'.cell? ⟨w.heap.size, 2, none⟩ = some (.string t) ∧ w'.cell? ⟨w.heap.size, 3, none⟩ = some (.string l) ∧ w'.cell? ⟨w.heap.size + 1, 0, none⟩ = some (.int .i64 k2) ∧ w'.cell? ⟨w.heap.size + 1, 1, none⟩ = some (.string x2) ∧ w'.cell? ⟨w.heap.size + 1, 2, none⟩ = some (.string t2) ∧ w'.cell? ⟨w.heap.size + 1, 3, none⟩ = some (.string l2) ∧ w'.cell? ⟨w.heap.size + 2, 0, none⟩ = some (.int .i64 k3) ∧ w'.cell? ⟨w.heap.size + 2, 1, none⟩ = some (.string x3) ∧ w'.cell? ⟨w.heap.size + 2, 2, none⟩ = some (.string t3) ∧ w'.cell? ⟨w.heap.size + 2, 3, none⟩ = some (.string l3) ∧ Below w.heap.size w w') (by kernel_rfl) ?hSq0 (fun hHeld => ?_)
        case hSq0 => exact ⟨c0, c1, c2, c3, c4, c5, c6, c7, c8, c9, c10, c11, cz.drew⟩
        refine wpAnyH_take (i := 0) (oi := ⟨some 28, _, _, _, _, _⟩) (v := ?vq0) rfl (by kernel_rfl) (by kernel_rfl) (by kernel_rfl) (fun _ _ _ h => h) (Or.inl ⟨by kernel_rfl, ?yq0⟩) (by assumption) ?rq0
        case yq0 =>
          intro w hSw
          try dsimp only at hSw
          first | (go_simp; done) | (go_simp; with_reducible rfl)
        try simp only [Act.put, List.setIfInBounds_toArray, List.set_cons_zero, List.set_cons_succ]
        refine wpAnyH_take (i := 3) (oi := ⟨some 31, _, _, _, _, _⟩) (v := ?vq3) rfl (by kernel_rfl) (by kernel_rfl) (by kernel_rfl) (fun _ _ _ h => h) (Or.inl ⟨by kernel_rfl, ?yq3⟩) (by assumption) ?rq3
        case yq3 =>
          intro w hSw
          try dsimp only at hSw
          first | (go_simp; done) | (go_simp; with_reducible rfl)
        try simp only [Act.put, List.setIfInBounds_toArray, List.set_cons_zero, List.set_cons_succ]
        refine wpAnyH_take (i := 6) (oi := ⟨some 34, _, _, _, _, _⟩) (v := ?vq6) rfl (by kernel_rfl) (by kernel_rfl) (by kernel_rfl) (fun _ _ _ h => h) (Or.inl ⟨by kernel_rfl, ?yq6⟩) (by assumption) ?rq6
        case yq6 =>
          intro w hSw
          try dsimp only at hSw
          first | (go_simp; done) | (go_simp; with_reducible rfl)
        try simp only [Act.put, List.setIfInBounds_toArray, List.set_cons_zero, List.set_cons_succ]
        refine wpAnyH_ready (rs := [1]) (by kernel_rfl) (by simp) ?_
        refine AllReadyH.cons (i := 1) (o := ⟨some 29, _, _, _, _, _⟩) rfl (fun K hK => ?_) AllReadyH.nil
        go_simp
        go_at_call 13
        refine (PR0.out _).mono ?_
        rintro e wp ⟨rfl, hb⟩
        go_wp2_with fail
        refine hK.out _ _ ?_ (fun hHeld => ?_)
        · exact kept_ref (by assumption) hb
        clear hK K
        try simp only [Act.put, List.setIfInBounds_toArray, List.set_cons_zero, List.set_cons_succ]
        refine wpAnyH_ready (rs := [2]) (by kernel_rfl) (by simp) ?_
        refine AllReadyH.cons (i := 2) (o := ⟨some 30, _, _, _, _, _⟩) rfl (fun K hK => ?_) AllReadyH.nil
        go_simp
        go_at_call 12
        refine (RR0.out _).mono ?_
        rintro e wp ⟨rfl, hb⟩
        go_wp2_with fail
        refine hK.out _ _ ?_ (fun hHeld => ?_)
        · exact kept_ref (by assumption) hb
        clear hK K
        try simp only [Act.put, List.setIfInBounds_toArray, List.set_cons_zero, List.set_cons_succ]
        refine wpAnyH_ready (rs := [4]) (by kernel_rfl) (by simp) ?_
        refine AllReadyH.cons (i := 4) (o := ⟨some 32, _, _, _, _, _⟩) rfl (fun K hK => ?_) AllReadyH.nil
        go_simp
        go_at_call 13
        refine (PR1.out _).mono ?_
        rintro e wp ⟨rfl, hb⟩
        go_wp2_with fail
        refine hK.out _ _ ?_ (fun hHeld => ?_)
        · exact kept_ref (by assumption) hb
        clear hK K
        try simp only [Act.put, List.setIfInBounds_toArray, List.set_cons_zero, List.set_cons_succ]
        refine wpAnyH_ready (rs := [5]) (by kernel_rfl) (by simp) ?_
        refine AllReadyH.cons (i := 5) (o := ⟨some 33, _, _, _, _, _⟩) rfl (fun K hK => ?_) AllReadyH.nil
        go_simp
        go_at_call 12
        refine (RR1.out _).mono ?_
        rintro e wp ⟨rfl, hb⟩
        go_wp2_with fail
        refine hK.out _ _ ?_ (fun hHeld => ?_)
        · exact kept_ref (by assumption) hb
        clear hK K
        try simp only [Act.put, List.setIfInBounds_toArray, List.set_cons_zero, List.set_cons_succ]
        refine wpAnyH_ready (rs := [7]) (by kernel_rfl) (by simp) ?_
        refine AllReadyH.cons (i := 7) (o := ⟨some 35, _, _, _, _, _⟩) rfl (fun K hK => ?_) AllReadyH.nil
        go_simp
        go_at_call 13
        refine (PR2.out _).mono ?_
        rintro e wp ⟨rfl, hb⟩
        go_wp2_with fail
        refine hK.out _ _ ?_ (fun hHeld => ?_)
        · exact kept_ref (by assumption) hb
        clear hK K
        try simp only [Act.put, List.setIfInBounds_toArray, List.set_cons_zero, List.set_cons_succ]
        refine wpAnyH_ready (rs := [8]) (by kernel_rfl) (by simp) ?_
        refine AllReadyH.cons (i := 8) (o := ⟨some 36, _, _, _, _, _⟩) rfl (fun K hK => ?_) AllReadyH.nil
        go_simp
        go_at_call 12
        refine (RR2.out _).mono ?_
        rintro e wp ⟨rfl, hb⟩
        go_wp2_with fail
        refine hK.out _ _ ?_ (fun hHeld => ?_)
        · exact kept_ref (by assumption) hb
        clear hK K
        try simp only [Act.put, List.setIfInBounds_toArray, List.set_cons_zero, List.set_cons_succ]
        refine wpAnyH_take (i := 9) (oi := ⟨some 7, _, _, _, _, _⟩) (v := ?vq9) rfl (by kernel_rfl) (by kernel_rfl) (by kernel_rfl) (fun _ _ _ h => h) (Or.inl ⟨by kernel_rfl, ?yq9⟩) (by assumption) ?rq9
        case yq9 =>
          intro w hSw
          try dsimp only at hSw
          first | (go_simp; done) | (go_simp; with_reducible rfl)
        try simp only [Act.put, List.setIfInBounds_toArray, List.set_cons_zero, List.set_cons_succ]
        refine wpAnyH_take (i := 10) (oi := ⟨some 8, _, _, _, _, _⟩) (v := ?vq10) rfl (by kernel_rfl) (by kernel_rfl) (by kernel_rfl) (fun _ _ _ h => h) (Or.inl ⟨by kernel_rfl, ?yq10⟩) (by assumption) ?rq10
        case yq10 =>
          intro w hSw
          try dsimp only at hSw
          first | (go_simp; done) | (go_simp; with_reducible rfl)
        try simp only [Act.put, List.setIfInBounds_toArray, List.set_cons_zero, List.set_cons_succ]
        refine wpAnyH_take (i := 11) (oi := ⟨some 9, _, _, _, _, _⟩) (v := ?vq11) rfl (by kernel_rfl) (by kernel_rfl) (by kernel_rfl) (fun _ _ _ h => h) (Or.inl ⟨by kernel_rfl, ?yq11⟩) (by assumption) ?rq11
        case yq11 =>
          intro w hSw
          try dsimp only at hSw
          first | (go_simp; done) | (go_simp; with_reducible rfl)
        try simp only [Act.put, List.setIfInBounds_toArray, List.set_cons_zero, List.set_cons_succ]
        refine wpAnyH_done (by kernel_rfl) ?_ _
        have HZ := Lib.hid hHeld.2.2.2.2.2.2.2.2.2.2.2.2
        clear hHeld cz c0 c1 c2 c3 c4 c5 c6 c7 c8 c9 c10 c11 HX
        obtain ⟨X, hX⟩ : ∃ X, X = termOf k x t l := ⟨_, rfl⟩
        obtain ⟨Y, hY⟩ : ∃ Y, Y = termOf k2 x2 t2 l2 := ⟨_, rfl⟩
        obtain ⟨Z, hZ⟩ : ∃ Z, Z = termOf k3 x3 t3 l3 := ⟨_, rfl⟩
        have SX : Sized X := by rw [hX]; exact sized_of HB1.out.symm
        have SY : Sized Y := by rw [hY]; exact sized_of HB2.out.symm
        have SZ : Sized Z := by rw [hZ]; exact sized_of HB3.out.symm
        rw [← hX, ← hY, ← hZ]
        have E1 := Lib.hid (fun w hv => equal_any X Y w SX SY hv)
        have E2 := Lib.hid (fun w hv => equal_any Y Z w SY SZ hv)
        have E3 := Lib.hid (fun w hv => equal_any X Z w SX SZ hv)
        clear hX hY hZ SX SY SZ
        by_cases g1 : equalV X Y = 1
        · rw [g1] at E1
          by_cases g2 : equalV Y Z = 1
          · rw [g2] at E2
            rw [equal_trans g1 g2] at E3
            clear g1 g2
            generalize tmV X = vx at *
            generalize tmV Y = vy at *
            generalize tmV Z = vz at *
            go_wp2_with fail
            refine (E1.out _ (HEV.out _ HZ.out)).mono ?_
            rintro e wn ⟨rfl, hbn⟩
            replace HZ := Lib.hid (HZ.out.trans (hbn.mono HZ.out.size))
            clear hbn
            go_wp2_with fail
            refine (E2.out _ (HEV.out _ HZ.out)).mono ?_
            rintro e wn ⟨rfl, hbn⟩
            replace HZ := Lib.hid (HZ.out.trans (hbn.mono HZ.out.size))
            clear hbn
            go_wp2_with fail
            refine (E3.out _ (HEV.out _ HZ.out)).mono ?_
            rintro e wn ⟨rfl, hbn⟩
            replace HZ := Lib.hid (HZ.out.trans (hbn.mono HZ.out.size))
            clear hbn
            go_wp2_with fail
            go_ret
            exact ⟨rfl, HZ.out⟩
          · clear g1 E3
            generalize equalV Y Z = r2 at *
            have g3 : (r2 == 1) = false := beq_eq_false_iff_ne.mpr g2
            clear g2
            generalize tmV X = vx at *
            generalize tmV Y = vy at *
            generalize tmV Z = vz at *
            go_wp2_with fail
            refine (E1.out _ (HEV.out _ HZ.out)).mono ?_
            rintro e wn ⟨rfl, hbn⟩
            replace HZ := Lib.hid (HZ.out.trans (hbn.mono HZ.out.size))
            clear hbn
            go_wp2_with fail
            refine (E2.out _ (HEV.out _ HZ.out)).mono ?_
            rintro e wn ⟨rfl, hbn⟩
            replace HZ := Lib.hid (HZ.out.trans (hbn.mono HZ.out.size))
            clear hbn
            go_wp2_with fail
            go_ret
            exact ⟨rfl, HZ.out⟩
        · clear E2 E3
          generalize equalV X Y = r1 at *
          have g3 : (r1 == 1) = false := beq_eq_false_iff_ne.mpr g1
          clear g1
          generalize tmV X = vx at *
          generalize tmV Y = vy at *
          generalize tmV Z = vz at *
          go_wp2_with fail
          refine (E1.out _ (HEV.out _ HZ.out)).mono ?_
          rintro e wn ⟨rfl, hbn⟩
          replace HZ := Lib.hid (HZ.out.trans (hbn.mono HZ.out.size))
          clear hbn
          go_wp2_with fail
          go_ret
          exact ⟨rfl, HZ.out⟩
end Go.Proofs.YteeajhnbifpklaaDoor
