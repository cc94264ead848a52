/- The document's dictionary over this seat's program: Put, all its ways. -/
import Derived.Test.YtghimladdioajaaDcRefPut
namespace Go.Proofs.Ytghimladdioajaa
open Go Go.RowKit
set_option linter.unusedVariables false
set_option linter.unusedSimpArgs false
set_option maxRecDepth 100000 in
set_option maxHeartbeats 1600000 in
theorem rput_bad {G : Tm → Bool} (hG : GoodFn G) (room : Int) (V : Value) (ts : List Tm) (x : Tm) (w : World) (h : DocRow w 0 V ts) (hz : Small x) (hg : G x = false) :
    Calls Try.prog 12 #[.agg #[.int .i64 room, V], refT x] w fun e w' => e = .returned (.tuple #[.agg #[.int .i64 room, V], .int .i64 0, .int .i64 3]) ∧ Below w.heap.size w w' := by
  have hgd := (hG x hz).2.1
  rw [hg] at hgd
  have HG := Lib.hid hgd
  clear hgd hg
  obtain ⟨a, cap, rfl⟩ := h.form
  clear h
  unfold refT
  generalize kindV x = k0 at *
  generalize text0 x = s0 at *
  generalize text1 x = s1 at *
  generalize text2 x = s2 at *
  obtain ⟨W0, hW0⟩ : ∃ W0, W0 = (((w.alloc (.cells #[.int .i64 room, .slice a ts.length cap] 29)).alloc (.cells #[.int .i64 k0, .string s0, .string s1, .string s2] 31)).alloc (.cells #[.int .i64 0, .slice none 0 0] 29)) := ⟨_, rfl⟩
  have hbw : Below w.heap.size w W0 := by rw [hW0]; go_grown
  have hd0 : W0.cell? ⟨w.heap.size, 0, none⟩ = some (.int .i64 room) := by rw [hW0]; simp [go_sem]
  have hd1 : W0.cell? ⟨w.heap.size, 1, none⟩ = some (.slice a ts.length cap) := by rw [hW0]; simp [go_sem]
  have he : W0.heap[w.heap.size + 1 + 1]? = some (.cells #[.int .i64 0, .slice none 0 0] 29 (0, 0)) := by rw [hW0]; have := (MapKept.heap_alloc ((w.alloc (.cells #[.int .i64 room, .slice a ts.length cap] 29)).alloc (.cells #[.int .i64 k0, .string s0, .string s1, .string s2] 31)) (.cells #[.int .i64 0, .slice none 0 0] 29)).1; simpa using this
  have HH := Lib.hid (⟨hbw, hd0, hd1, he⟩ : _ ∧ _ ∧ _ ∧ _)
  have HW0 := Lib.hid hW0
  clear hW0 hbw hd0 hd1 he
  go_enter Try.func12, Try.ntmps12
  go_wp2_with fail
  rw [← HW0.out]
  refine (HG.out _).mono ?_
  rintro e w1 ⟨rfl, hb1⟩
  have d0 := cell_below HH.out.2.1 hb1
  have d1 := cell_below HH.out.2.2.1 hb1
  have e0 := (hb1.block _ (lt_heap HH.out.2.2.2)).trans HH.out.2.2.2
  obtain ⟨z0, z1, z2, z3⟩ := cells2 e0
  have HB := Lib.hid (HH.out.1.trans (hb1.mono HH.out.1.size))
  clear hb1 e0
  go_wp2_with fail
  refine bodyPost_ret (v := .tuple #[.agg #[.int .i64 room, .slice a ts.length cap], .int .i64 0, .int .i64 3]) (by simp [results, Try.results12, go_sem, z0, z1]) rfl ?_
  exact ⟨rfl, ((HB.out.setCell (p := ⟨w.heap.size + 1 + 1, 0, none⟩) (by show _ ≤ w.heap.size + 1 + 1; omega) _).setCell (p := ⟨w.heap.size + 1 + 1, 1, none⟩) (by show _ ≤ w.heap.size + 1 + 1; omega) _)⟩
set_option maxRecDepth 100000 in
set_option maxHeartbeats 1600000 in
theorem rput_there {G : Tm → Bool} (hG : GoodFn G) (room : Int) (V : Value) (ts : List Tm) (x : Tm) (w : World) (h : DocRow w 0 V ts) (hz : Small x) (hx : KeyT x) (hk : ∀ k ∈ ts, KeyT k) (hl : ts.length ≤ 100000) (hg : G x = true) (j : Nat) (hi : idxT x ts = some j) :
    Calls Try.prog 12 #[.agg #[.int .i64 room, V], refT x] w fun e w' => e = .returned (.tuple #[.agg #[.int .i64 room, V], .int .i64 j, .int .i64 0]) ∧ Below w.heap.size w w' := by
  have hfn : ∀ w1, DocRow w1 0 V ts → Calls Try.prog 25 #[.agg #[.int .i64 room, V], refT x] w1 fun e w' => e = .returned (.int .i64 j) ∧ Below w1.heap.size w1 w' := by
    intro w1 h1
    have := rfind_any hG room 0 V ts x w1 h1 hz hx hk hl
    unfold rfindN at this
    rw [scanAt_good hg, hi] at this
    simpa using this
  have HF := Lib.hid hfn
  have hgd := (hG x hz).2.1
  rw [hg] at hgd
  have HG := Lib.hid hgd
  have HR := Lib.hid h
  have t1 : decide ((j : Int) ≥ 0) = true := decide_eq_true (by omega)
  clear hgd hg hfn hi hk
  obtain ⟨a, cap, rfl⟩ := h.form
  clear h
  unfold refT at HF ⊢
  generalize kindV x = k0 at *
  generalize text0 x = s0 at *
  generalize text1 x = s1 at *
  generalize text2 x = s2 at *
  obtain ⟨W0, hW0⟩ : ∃ W0, W0 = (((w.alloc (.cells #[.int .i64 room, .slice a ts.length cap] 29)).alloc (.cells #[.int .i64 k0, .string s0, .string s1, .string s2] 31)).alloc (.cells #[.int .i64 0, .slice none 0 0] 29)) := ⟨_, rfl⟩
  have hbw : Below w.heap.size w W0 := by rw [hW0]; go_grown
  have hd0 : W0.cell? ⟨w.heap.size, 0, none⟩ = some (.int .i64 room) := by rw [hW0]; simp [go_sem]
  have hd1 : W0.cell? ⟨w.heap.size, 1, none⟩ = some (.slice a ts.length cap) := by rw [hW0]; simp [go_sem]
  have hc0 : W0.cell? ⟨w.heap.size + 1, 0, none⟩ = some (.int .i64 k0) := by rw [hW0]; simp [go_sem]
  have hc1 : W0.cell? ⟨w.heap.size + 1, 1, none⟩ = some (.string s0) := by rw [hW0]; simp [go_sem]
  have hc2 : W0.cell? ⟨w.heap.size + 1, 2, none⟩ = some (.string s1) := by rw [hW0]; simp [go_sem]
  have hc3 : W0.cell? ⟨w.heap.size + 1, 3, none⟩ = some (.string s2) := by rw [hW0]; simp [go_sem]
  have he : W0.heap[w.heap.size + 1 + 1]? = some (.cells #[.int .i64 0, .slice none 0 0] 29 (0, 0)) := by rw [hW0]; have := (MapKept.heap_alloc ((w.alloc (.cells #[.int .i64 room, .slice a ts.length cap] 29)).alloc (.cells #[.int .i64 k0, .string s0, .string s1, .string s2] 31)) (.cells #[.int .i64 0, .slice none 0 0] 29)).1; simpa using this
  have HH := Lib.hid (⟨hbw, hd0, hd1, he, hc0, hc1, hc2, hc3⟩ : _ ∧ _ ∧ _ ∧ _ ∧ _ ∧ _ ∧ _ ∧ _)
  have HW0 := Lib.hid hW0
  clear hW0 hbw hd0 hd1 he hc0 hc1 hc2 hc3
  go_enter Try.func12, Try.ntmps12
  go_wp2_with fail
  rw [← HW0.out]
  refine (HG.out _).mono ?_
  rintro e w1 ⟨rfl, hb1⟩
  obtain ⟨hbw, hd0, hd1, he, hc0, hc1, hc2, hc3⟩ := HH.out
  have d0 := cell_below hd0 hb1
  have d1 := cell_below hd1 hb1
  have c0 := cell_below hc0 hb1
  have c1 := cell_below hc1 hb1
  have c2 := cell_below hc2 hb1
  have c3 := cell_below hc3 hb1
  have e0 := Lib.hid ((hb1.block _ (lt_heap he)).trans he)
  have HB := Lib.hid (hbw.trans (hb1.mono hbw.size))
  have hr := (HR.out.below hbw).below hb1
  clear hb1 hbw hd0 hd1 he hc0 hc1 hc2 hc3
  go_wp2_with fail
  refine (HF.out _ hr).mono ?_
  rintro e w2 ⟨rfl, hb2⟩
  have d0 := cell_below d0 hb2
  have d1 := cell_below d1 hb2
  have e1 := (hb2.block _ (lt_heap e0.out)).trans e0.out
  obtain ⟨z0, z1, z2, z3⟩ := cells2 e1
  replace HB := Lib.hid (HB.out.trans (hb2.mono HB.out.size))
  clear hb2 e1 c0 c1 c2 c3 hr
  go_wp2_with fail
  refine bodyPost_ret (v := .tuple #[.agg #[.int .i64 room, .slice a ts.length cap], .int .i64 j, .int .i64 0]) (by simp [results, Try.results12, go_sem, z0, z1]) rfl ?_
  exact ⟨rfl, ((HB.out.setCell (p := ⟨w.heap.size + 1 + 1, 0, none⟩) (by show _ ≤ w.heap.size + 1 + 1; omega) _).setCell (p := ⟨w.heap.size + 1 + 1, 1, none⟩) (by show _ ≤ w.heap.size + 1 + 1; omega) _)⟩
set_option maxRecDepth 100000 in
set_option maxHeartbeats 1600000 in
theorem rput_full {G : Tm → Bool} (hG : GoodFn G) (room : Int) (V : Value) (ts : List Tm) (x : Tm) (w : World) (h : DocRow w 0 V ts) (hz : Small x) (hx : KeyT x) (hk : ∀ k ∈ ts, KeyT k) (hl : ts.length ≤ 100000) (hg : G x = true) (hi : idxT x ts = none) (hr : room ≤ ts.length) :
    Calls Try.prog 12 #[.agg #[.int .i64 room, V], refT x] w fun e w' => e = .returned (.tuple #[.agg #[.int .i64 room, V], .int .i64 0, .int .i64 6]) ∧ Below w.heap.size w w' := by
  have hfn : ∀ w1, DocRow w1 0 V ts → Calls Try.prog 25 #[.agg #[.int .i64 room, V], refT x] w1 fun e w' => e = .returned (.int .i64 (-1)) ∧ Below w1.heap.size w1 w' := by
    intro w1 h1
    have := rfind_any hG room 0 V ts x w1 h1 hz hx hk hl
    unfold rfindN at this
    rw [scanAt_good hg, hi] at this
    exact this
  have HF := Lib.hid hfn
  have hgd := (hG x hz).2.1
  rw [hg] at hgd
  have HG := Lib.hid hgd
  have HR := Lib.hid h
  have t1 : decide ((ts.length : Int) ≥ room) = true := decide_eq_true (by omega)
  clear hgd hg hfn hi hk hr
  obtain ⟨a, cap, rfl⟩ := h.form
  clear h
  unfold refT at HF ⊢
  generalize kindV x = k0 at *
  generalize text0 x = s0 at *
  generalize text1 x = s1 at *
  generalize text2 x = s2 at *
  obtain ⟨W0, hW0⟩ : ∃ W0, W0 = (((w.alloc (.cells #[.int .i64 room, .slice a ts.length cap] 29)).alloc (.cells #[.int .i64 k0, .string s0, .string s1, .string s2] 31)).alloc (.cells #[.int .i64 0, .slice none 0 0] 29)) := ⟨_, rfl⟩
  have hbw : Below w.heap.size w W0 := by rw [hW0]; go_grown
  have hd0 : W0.cell? ⟨w.heap.size, 0, none⟩ = some (.int .i64 room) := by rw [hW0]; simp [go_sem]
  have hd1 : W0.cell? ⟨w.heap.size, 1, none⟩ = some (.slice a ts.length cap) := by rw [hW0]; simp [go_sem]
  have hc0 : W0.cell? ⟨w.heap.size + 1, 0, none⟩ = some (.int .i64 k0) := by rw [hW0]; simp [go_sem]
  have hc1 : W0.cell? ⟨w.heap.size + 1, 1, none⟩ = some (.string s0) := by rw [hW0]; simp [go_sem]
  have hc2 : W0.cell? ⟨w.heap.size + 1, 2, none⟩ = some (.string s1) := by rw [hW0]; simp [go_sem]
  have hc3 : W0.cell? ⟨w.heap.size + 1, 3, none⟩ = some (.string s2) := by rw [hW0]; simp [go_sem]
  have he : W0.heap[w.heap.size + 1 + 1]? = some (.cells #[.int .i64 0, .slice none 0 0] 29 (0, 0)) := by rw [hW0]; have := (MapKept.heap_alloc ((w.alloc (.cells #[.int .i64 room, .slice a ts.length cap] 29)).alloc (.cells #[.int .i64 k0, .string s0, .string s1, .string s2] 31)) (.cells #[.int .i64 0, .slice none 0 0] 29)).1; simpa using this
  have HH := Lib.hid (⟨hbw, hd0, hd1, he, hc0, hc1, hc2, hc3⟩ : _ ∧ _ ∧ _ ∧ _ ∧ _ ∧ _ ∧ _ ∧ _)
  have HW0 := Lib.hid hW0
  clear hW0 hbw hd0 hd1 he hc0 hc1 hc2 hc3
  go_enter Try.func12, Try.ntmps12
  go_wp2_with fail
  rw [← HW0.out]
  refine (HG.out _).mono ?_
  rintro e w1 ⟨rfl, hb1⟩
  obtain ⟨hbw, hd0, hd1, he, hc0, hc1, hc2, hc3⟩ := HH.out
  have d0 := cell_below hd0 hb1
  have d1 := cell_below hd1 hb1
  have c0 := cell_below hc0 hb1
  have c1 := cell_below hc1 hb1
  have c2 := cell_below hc2 hb1
  have c3 := cell_below hc3 hb1
  have e0 := Lib.hid ((hb1.block _ (lt_heap he)).trans he)
  have HB := Lib.hid (hbw.trans (hb1.mono hbw.size))
  have hr := (HR.out.below hbw).below hb1
  clear hb1 hbw hd0 hd1 he hc0 hc1 hc2 hc3
  go_wp2_with fail
  refine (HF.out _ hr).mono ?_
  rintro e w2 ⟨rfl, hb2⟩
  have d0 := cell_below d0 hb2
  have d1 := cell_below d1 hb2
  have e1 := (hb2.block _ (lt_heap e0.out)).trans e0.out
  obtain ⟨z0, z1, z2, z3⟩ := cells2 e1
  replace HB := Lib.hid (HB.out.trans (hb2.mono HB.out.size))
  clear hb2 e1 c0 c1 c2 c3 hr
  go_wp2_with fail
  refine bodyPost_ret (v := .tuple #[.agg #[.int .i64 room, .slice a ts.length cap], .int .i64 0, .int .i64 6]) (by simp [results, Try.results12, go_sem, z0, z1]) rfl ?_
  exact ⟨rfl, ((HB.out.setCell (p := ⟨w.heap.size + 1 + 1, 0, none⟩) (by show _ ≤ w.heap.size + 1 + 1; omega) _).setCell (p := ⟨w.heap.size + 1 + 1, 1, none⟩) (by show _ ≤ w.heap.size + 1 + 1; omega) _)⟩
/-- the document's Put, by the plain function -/
theorem rput_any {G : Tm → Bool} (hG : GoodFn G) (room : Int) (V : Value) (ts : List Tm) (x : Tm) (w : World) (h : DocRow w 0 V ts) (hz : Small x) (hx : KeyT x) (hk : ∀ k ∈ ts, KeyT k) (hl : ts.length ≤ 100000) :
    Calls Try.prog 12 #[.agg #[.int .i64 room, V], refT x] w (RPut G room ts x w) := by
  unfold RPut putT
  cases hg : G x with
  | false =>
    simp only [if_true]
    exact (rput_bad hG room V ts x w h hz hg).mono fun e w' hw => ⟨V, hw.1, h.below hw.2, hw.2⟩
  | true =>
    simp only [Bool.true_eq_false, if_false]
    cases hi : idxT x ts with
    | some j => exact (rput_there hG room V ts x w h hz hx hk hl hg j hi).mono fun e w' hw => ⟨V, hw.1, h.below hw.2, hw.2⟩
    | none =>
      by_cases hr : room ≤ ts.length
      · simp only [if_pos hr]
        exact (rput_full hG room V ts x w h hz hx hk hl hg hi hr).mono fun e w' hw => ⟨V, hw.1, h.below hw.2, hw.2⟩
      · simp only [if_neg hr]
        exact (rput_new hG room V ts x w h hz hx hk hl hg hi hr).mono fun e w' ⟨V', h1, h2, h3⟩ => ⟨V', h1, h2, h3⟩
end Go.Proofs.Ytghimladdioajaa
