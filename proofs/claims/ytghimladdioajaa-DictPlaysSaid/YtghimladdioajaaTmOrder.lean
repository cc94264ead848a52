/- Contracts of package term's texts and Order over this seat's program. Every two terms. -/
import Derived.Test.YtghimladdioajaaTmKind
import Derived.StillTailTactics
namespace Go.Proofs.Ytghimladdioajaa
open Go Go.RowKit
set_option linter.unusedVariables false
set_option linter.unusedSimpArgs false
def textsV (x : Tm) : Value := .agg #[.string (text0 x), .string (text1 x), .string (text2 x)]
set_option maxRecDepth 100000 in
set_option maxHeartbeats 800000 in
theorem texts_any (x : Tm) (w : World) : Calls Try.prog 48 #[tmV x] w fun e w' => e = .returned (textsV x) ∧ Below w.heap.size w w' := by
  cases x with
  | blank s =>
    show Calls Try.prog 48 #[.iface 93 (.agg #[.string s])] w fun e w' => e = .returned (.agg #[.string s, .string ⟨#[]⟩, .string ⟨#[]⟩]) ∧ Below w.heap.size w w'
    have t0 := ta_blank_Blank s
    have t1 := ta_blank_IRI s
    have t2 := ta_blank_Literal s
    go_enter Try.func48, Try.ntmps48
    go_wp2
    refine bodyPost_ret (v := .agg #[.string s, .string ⟨#[]⟩, .string ⟨#[]⟩]) (by simp [results, Try.results48, go_sem]) rfl ?_
    exact ⟨rfl, by go_grown⟩
  | iri s =>
    show Calls Try.prog 48 #[.iface 95 (.agg #[.string s])] w fun e w' => e = .returned (.agg #[.string s, .string ⟨#[]⟩, .string ⟨#[]⟩]) ∧ Below w.heap.size w w'
    have t0 := ta_iri_Blank s
    have t1 := ta_iri_IRI s
    have t2 := ta_iri_Literal s
    go_enter Try.func48, Try.ntmps48
    go_wp2
    refine bodyPost_ret (v := .agg #[.string s, .string ⟨#[]⟩, .string ⟨#[]⟩]) (by simp [results, Try.results48, go_sem]) rfl ?_
    exact ⟨rfl, by go_grown⟩
  | lit s t l =>
    show Calls Try.prog 48 #[.iface 84 (.agg #[.string s, .string t, .string l])] w fun e w' => e = .returned (.agg #[.string s, .string t, .string l]) ∧ Below w.heap.size w w'
    have t0 := ta_lit_Blank s t l
    have t1 := ta_lit_IRI s t l
    have t2 := ta_lit_Literal s t l
    go_enter Try.func48, Try.ntmps48
    go_wp2
    refine bodyPost_ret (v := .agg #[.string s, .string t, .string l]) (by simp [results, Try.results48, go_sem]) rfl ?_
    exact ⟨rfl, by go_grown⟩
  | odd n =>
    show Calls Try.prog 48 #[.iface 97 (.agg #[.int .i64 n])] w fun e w' => e = .returned (.agg #[.string ⟨#[]⟩, .string ⟨#[]⟩, .string ⟨#[]⟩]) ∧ Below w.heap.size w w'
    have t0 := ta_odd_Blank n
    have t1 := ta_odd_IRI n
    have t2 := ta_odd_Literal n
    go_enter Try.func48, Try.ntmps48
    go_wp2
    refine bodyPost_ret (v := .agg #[.string ⟨#[]⟩, .string ⟨#[]⟩, .string ⟨#[]⟩]) (by simp [results, Try.results48, go_sem]) rfl ?_
    exact ⟨rfl, by go_grown⟩
  | none =>
    show Calls Try.prog 48 #[.nilIface] w fun e w' => e = .returned (.agg #[.string ⟨#[]⟩, .string ⟨#[]⟩, .string ⟨#[]⟩]) ∧ Below w.heap.size w w'
    have t0 := ta_none_Blank
    have t1 := ta_none_IRI
    have t2 := ta_none_Literal
    go_enter Try.func48, Try.ntmps48
    go_wp2
    refine bodyPost_ret (v := .agg #[.string ⟨#[]⟩, .string ⟨#[]⟩, .string ⟨#[]⟩]) (by simp [results, Try.results48, go_sem]) rfl ?_
    exact ⟨rfl, by go_grown⟩
def orderV (x y : Tm) : Int := orV [cmpI (kindV x) (kindV y), cmpS (text0 x) (text0 y), cmpS (text1 x) (text1 y), cmpS (text2 x) (text2 y)]
set_option maxRecDepth 100000 in
set_option maxHeartbeats 1600000 in
theorem order_any (x y : Tm) (w : World) : Calls Try.prog 39 #[tmV x, tmV y] w fun e w' => e = .returned (.int .i64 (orderV x y)) ∧ Below w.heap.size w w' := by
  have TX := Lib.hid (texts_any x)
  have TY := Lib.hid (texts_any y)
  have KX := Lib.hid (fun w => (kind_any x w).mono (fun e w' h => (⟨h.1, h.2.symm⟩ : e = .returned (.int .i64 (kindV x)) ∧ w' = w)))
  have KY := Lib.hid (fun w => (kind_any y w).mono (fun e w' h => (⟨h.1, h.2.symm⟩ : e = .returned (.int .i64 (kindV y)) ∧ w' = w)))
  have CI := Lib.hid (fun w => (cmpi_any (kindV x) (kindV y) w).mono (fun e w' h => (⟨h.1, h.2.symm⟩ : e = .returned (.int .i64 (cmpI (kindV x) (kindV y))) ∧ w' = w)))
  have C0 := Lib.hid (fun w => (cmps_any (text0 x) (text0 y) w).mono (fun e w' h => (⟨h.1, h.2.symm⟩ : e = .returned (.int .i64 (cmpS (text0 x) (text0 y))) ∧ w' = w)))
  have C1 := Lib.hid (fun w => (cmps_any (text1 x) (text1 y) w).mono (fun e w' h => (⟨h.1, h.2.symm⟩ : e = .returned (.int .i64 (cmpS (text1 x) (text1 y))) ∧ w' = w)))
  have C2 := Lib.hid (fun w => (cmps_any (text2 x) (text2 y) w).mono (fun e w' h => (⟨h.1, h.2.symm⟩ : e = .returned (.int .i64 (cmpS (text2 x) (text2 y))) ∧ w' = w)))
  obtain ⟨R, hR⟩ : ∃ R, R = orderV x y := ⟨_, rfl⟩
  have HR := Lib.hid hR
  rw [← hR]
  unfold orderV at HR
  obtain ⟨i0, hi0⟩ : ∃ i, i = cmpI (kindV x) (kindV y) := ⟨_, rfl⟩
  obtain ⟨i1, hi1⟩ : ∃ i, i = cmpS (text0 x) (text0 y) := ⟨_, rfl⟩
  obtain ⟨i2, hi2⟩ : ∃ i, i = cmpS (text1 x) (text1 y) := ⟨_, rfl⟩
  obtain ⟨i3, hi3⟩ : ∃ i, i = cmpS (text2 x) (text2 y) := ⟨_, rfl⟩
  rw [← hi0] at CI HR
  rw [← hi1] at C0 HR
  rw [← hi2] at C1 HR
  rw [← hi3] at C2 HR
  clear hi0 hi1 hi2 hi3 hR
  unfold textsV at TX TY
  generalize kindV x = kx at *
  generalize kindV y = ky at *
  generalize text0 x = x0 at *
  generalize text1 x = x1 at *
  generalize text2 x = x2 at *
  generalize text0 y = y0 at *
  generalize text1 y = y1 at *
  generalize text2 y = y2 at *
  generalize tmV x = vx at *
  generalize tmV y = vy at *
  go_enter Try.func39, Try.ntmps39
  go_wp2_with fail
  refine (TX.out _).mono ?_
  rintro e w1 ⟨rfl, hb1⟩
  go_wp2_with fail
  refine (TY.out _).mono ?_
  rintro e w2 ⟨rfl, hb2⟩
  have HB := Lib.hid (hb1.trans (hb2.mono hb1.size))
  clear hb1 hb2 TX TY
  go_wp2_with fail
  obtain ⟨w3, h3⟩ : ∃ w3, w3 = (w2.alloc (.cells #[.string x0, .string x1, .string x2] 106)).alloc (.cells #[.string y0, .string y1, .string y2] 106) := ⟨_, rfl⟩
  have d0 : w3.drew.cell? ⟨w2.heap.size, 0, none⟩ = some (.string x0) := by rw [h3]; simp [go_sem]
  have d1 : w3.drew.cell? ⟨w2.heap.size, 1, none⟩ = some (.string x1) := by rw [h3]; simp [go_sem]
  have d2 : w3.drew.cell? ⟨w2.heap.size, 2, none⟩ = some (.string x2) := by rw [h3]; simp [go_sem]
  have d3 : w3.drew.cell? ⟨w2.heap.size + 1, 0, none⟩ = some (.string y0) := by rw [h3]; simp [go_sem]
  have d4 : w3.drew.cell? ⟨w2.heap.size + 1, 1, none⟩ = some (.string y1) := by rw [h3]; simp [go_sem]
  have d5 : w3.drew.cell? ⟨w2.heap.size + 1, 2, none⟩ = some (.string y2) := by rw [h3]; simp [go_sem]
  have hbb : Below w.heap.size w w3.drew := by
    rw [h3]
    exact ((HB.out.alloc HB.out.size _).alloc (by simp; have := HB.out.size; omega) _).drew
  replace HB := Lib.hid hbb
  rw [← h3]
  clear h3 hbb
  refine wp_region_still_tail 20 (by kernel_rfl) (by kernel_rfl) ?_
  change wpStill _ _ w3.drew (fun a' => wpList _ _ _ _ a' w3.drew) _ _
  generalize w3.drew = w4 at *
  generalize w2.heap.size = B at *
  simp only [List.take_succ_cons, List.take_zero, List.drop_succ_cons, List.drop_zero]
  refine wpStill_step (fun K hK => ?_)
  go_simp
  refine hK _ ?_
  clear hK K
  refine wpStill_step (fun K hK => ?_)
  go_simp
  refine ⟨_, (KX.out _), hK _ ?_⟩
  clear hK K
  refine wpStill_step (fun K hK => ?_)
  go_simp
  refine hK _ ?_
  clear hK K
  refine wpStill_step (fun K hK => ?_)
  go_simp
  refine ⟨_, (KY.out _), hK _ ?_⟩
  clear hK K
  refine wpStill_step (fun K hK => ?_)
  go_simp
  refine ⟨_, (CI.out _), hK _ ?_⟩
  clear hK K
  refine wpStill_step (fun K hK => ?_)
  go_simp
  refine hK _ ?_
  clear hK K
  refine wpStill_step (fun K hK => ?_)
  go_simp
  refine hK _ ?_
  clear hK K
  refine wpStill_step (fun K hK => ?_)
  go_simp
  refine hK _ ?_
  clear hK K
  refine wpStill_step (fun K hK => ?_)
  go_simp
  refine hK _ ?_
  clear hK K
  refine wpStill_step (fun K hK => ?_)
  go_simp
  refine ⟨_, (C0.out _), hK _ ?_⟩
  clear hK K
  refine wpStill_step (fun K hK => ?_)
  go_simp
  refine hK _ ?_
  clear hK K
  refine wpStill_step (fun K hK => ?_)
  go_simp
  refine hK _ ?_
  clear hK K
  refine wpStill_step (fun K hK => ?_)
  go_simp
  refine hK _ ?_
  clear hK K
  refine wpStill_step (fun K hK => ?_)
  go_simp
  refine hK _ ?_
  clear hK K
  refine wpStill_step (fun K hK => ?_)
  go_simp
  refine ⟨_, (C1.out _), hK _ ?_⟩
  clear hK K
  refine wpStill_step (fun K hK => ?_)
  go_simp
  refine hK _ ?_
  clear hK K
  refine wpStill_step (fun K hK => ?_)
  go_simp
  refine hK _ ?_
  clear hK K
  refine wpStill_step (fun K hK => ?_)
  go_simp
  refine hK _ ?_
  clear hK K
  refine wpStill_step (fun K hK => ?_)
  go_simp
  refine hK _ ?_
  clear hK K
  refine wpStill_step (fun K hK => ?_)
  go_simp
  refine ⟨_, (C2.out _), hK _ ?_⟩
  clear hK K
  refine wpStill_nil ?_
  go_wp2_with fail
  refine (or_four i0 i1 i2 i3 _ _ (heap_alloc_new _ _)).mono ?_
  rintro e w5 ⟨rfl, rfl⟩
  rw [← HR.out]
  go_wp2_with fail
  go_ret
  exact ⟨rfl, HB.out.alloc HB.out.size _⟩
end Go.Proofs.Ytghimladdioajaa
