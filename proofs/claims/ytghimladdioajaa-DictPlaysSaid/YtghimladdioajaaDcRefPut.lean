/- The document's dictionary over this seat's program: Put. -/
import Derived.Test.YtghimladdioajaaDcRef
import Derived.Test.YtghimladdioajaaRegLast
import Derived.BigRegion
namespace Go.Proofs.Ytghimladdioajaa
open Go Go.RowKit
set_option linter.unusedVariables false
set_option linter.unusedSimpArgs false
/-- the terms of a dictionary: good, small -/
def Fine (G : Tm → Bool) (ts : List Tm) : Prop := ∀ x ∈ ts, KeyT x ∧ Small x ∧ G x = true
theorem Fine.key {G : Tm → Bool} {ts : List Tm} (h : Fine G ts) : ∀ x ∈ ts, KeyT x := fun x hx => (h x hx).1
/-- a document's dictionary, as its law tells it -/
def RPut (G : Tm → Bool) (room : Int) (ts : List Tm) (x : Tm) (w : World) (e : Ending) (w' : World) : Prop :=
  ∃ V', e = .returned (.tuple #[.agg #[.int .i64 room, V'], .int .i64 (putT G room ts x).2.1, .int .i64 (putT G room ts x).2.2]) ∧ DocRow w' 0 V' (putT G room ts x).1 ∧ Below w.heap.size w w'
theorem cells2 {w : World} {p : Nat} {a b : Value} {T : TypeId} (h1 : w.heap[p]? = some (.cells #[a, b] T (0, 0))) : w.cell? ⟨p, 0, none⟩ = some a ∧ w.cell? ⟨p, 1, none⟩ = some b ∧ w.frozen? ⟨p, 0, none⟩ = false ∧ w.frozen? ⟨p, 1, none⟩ = false := by
  exact ⟨by simp [World.cell?, h1], by simp [World.cell?, h1], by simp [World.frozen?, h1], by simp [World.frozen?, h1]⟩
theorem kept5 {w1 w2 : World} {a0 a1 a2 a3 a4 : Addr} {v0 v1 v2 v3 v4 : Value} (h : w1.cell? a0 = some v0 ∧ w1.cell? a1 = some v1 ∧ w1.cell? a2 = some v2 ∧ w1.cell? a3 = some v3 ∧ w1.cell? a4 = some v4) (hb : Below w1.heap.size w1 w2) :
    w2.cell? a0 = some v0 ∧ w2.cell? a1 = some v1 ∧ w2.cell? a2 = some v2 ∧ w2.cell? a3 = some v3 ∧ w2.cell? a4 = some v4 := by
  obtain ⟨h0, h1, h2, h3, h4⟩ := h
  exact ⟨cell_below h0 hb, cell_below h1 hb, cell_below h2 hb, cell_below h3 hb, cell_below h4 hb⟩
theorem rput_end {w w2 w4 : World} {V : Value} {us : List Tm} (hr : DocRow w4 w2.heap.size V us) (hb4 : Below w2.heap.size w2 w4) (hb2 : Below w.heap.size w w2) (hsz : w.heap.size + 3 ≤ w2.heap.size) (v v1 v2 : Value) :
    DocRow (((w4.setCell ⟨w.heap.size, 1, none⟩ v).setCell ⟨w.heap.size + 1 + 1, 0, none⟩ v1).setCell ⟨w.heap.size + 1 + 1, 1, none⟩ v2).drew 0 V us ∧ Below w.heap.size w (((w4.setCell ⟨w.heap.size, 1, none⟩ v).setCell ⟨w.heap.size + 1 + 1, 0, none⟩ v1).setCell ⟨w.heap.size + 1 + 1, 1, none⟩ v2).drew := by
  refine ⟨(((hr.set_far (p := ⟨w.heap.size, 1, none⟩) (by show w.heap.size < _; omega) v).set_far (p := ⟨w.heap.size + 1 + 1, 0, none⟩) (by show w.heap.size + 1 + 1 < _; omega) v1).set_far (p := ⟨w.heap.size + 1 + 1, 1, none⟩) (by show w.heap.size + 1 + 1 < _; omega) v2).base (Nat.zero_le _), ?_⟩
  exact ((((hb2.trans (hb4.mono hb2.size)).setCell (p := ⟨w.heap.size, 1, none⟩) (Nat.le_refl _) _).setCell (p := ⟨w.heap.size + 1 + 1, 0, none⟩) (by show _ ≤ w.heap.size + 1 + 1; omega) _).setCell (p := ⟨w.heap.size + 1 + 1, 1, none⟩) (by show _ ≤ w.heap.size + 1 + 1; omega) _).drew
set_option maxRecDepth 100000 in
set_option maxHeartbeats 3200000 in
theorem rput_new {G : Tm → Bool} (hG : GoodFn G) (room : Int) (V : Value) (ts : List Tm) (x : Tm) (w : World) (h : DocRow w 0 V ts) (hz : Small x) (hx : KeyT x) (hk : ∀ k ∈ ts, KeyT k) (hl : ts.length ≤ 100000) (hg : G x = true) (hi : idxT x ts = none) (hr : ¬ room ≤ ts.length) :
    Calls Try.prog 12 #[.agg #[.int .i64 room, V], refT x] w fun e w' => ∃ V', e = .returned (.tuple #[.agg #[.int .i64 room, V'], .int .i64 ts.length, .int .i64 0]) ∧ DocRow w' 0 V' (ts ++ [x]) ∧ Below w.heap.size w w' := by
  have hfn : ∀ w1, DocRow w1 0 V ts → Calls Try.prog 25 #[.agg #[.int .i64 room, V], refT x] w1 fun e w' => e = .returned (.int .i64 (-1)) ∧ Below w1.heap.size w1 w' := by
    intro w1 h1
    have := rfind_any hG room 0 V ts x w1 h1 hz hx hk hl
    unfold rfindN at this
    rw [scanAt_good hg, hi] at this
    exact this
  have HF := Lib.hid hfn
  have hgd := (hG x hz).2.1
  rw [hg] at hgd
  have HG := Lib.hid hgd
  have HR := Lib.hid h
  have HRX : Hid (∀ w1 : World, DocRow (w1.alloc (.cells #[.int .i64 (kindV x), .string (text0 x), .string (text1 x), .string (text2 x)] 31)) w1.heap.size (.slice (some ⟨w1.heap.size, 0, none⟩) 1 1) [x]) := Lib.hid (fun w1 => RowOf.new refC_len w1 [x] (by simp))
  have HE : Hid (∀ w1 : World, DocRow (w1.alloc (.cells #[] 31)) w1.heap.size (.slice (some ⟨w1.heap.size, 0, none⟩) 0 0) []) := Lib.hid (fun w1 => RowOf.new refC_len w1 ([] : List Tm) (by simp))
  have HL := Lib.hid hl
  have t1 : decide ((ts.length : Int) ≥ room) = false := decide_eq_false (by omega)
  clear hfn hgd hg hi hr hx hk hl
  obtain ⟨a, cap, rfl⟩ := h.form
  clear h
  unfold refT at HF ⊢
  obtain ⟨k0, hk0⟩ : ∃ k0, k0 = kindV x := ⟨_, rfl⟩
  obtain ⟨s0, hs0⟩ : ∃ s0, s0 = text0 x := ⟨_, rfl⟩
  obtain ⟨s1, hs1⟩ : ∃ s1, s1 = text1 x := ⟨_, rfl⟩
  obtain ⟨s2, hs2⟩ : ∃ s2, s2 = text2 x := ⟨_, rfl⟩
  have HX := Lib.hid (⟨hk0, hs0, hs1, hs2⟩ : _ ∧ _ ∧ _ ∧ _)
  rw [← hk0, ← hs0, ← hs1, ← hs2] at HRX HF HG ⊢
  clear hk0 hs0 hs1 hs2
  go_enter Try.func12, Try.ntmps12
  go_wp2_with fail
  refine (HG.out _).mono ?_
  rintro e w1 ⟨rfl, hb1⟩
  obtain ⟨W0, hW0⟩ : ∃ W0, W0 = (((w.alloc (.cells #[.int .i64 room, .slice a ts.length cap] 29)).alloc (.cells #[.int .i64 k0, .string s0, .string s1, .string s2] 31)).alloc (.cells #[.int .i64 0, .slice none 0 0] 29)) := ⟨_, rfl⟩
  have hsz : W0.heap.size = w.heap.size + 3 := by rw [hW0]; simp
  have hbw : Below w.heap.size w W0 := by rw [hW0]; go_grown
  have hd0 : W0.cell? ⟨w.heap.size, 0, none⟩ = some (.int .i64 room) := by rw [hW0]; simp [go_sem]
  have hd1 : W0.cell? ⟨w.heap.size, 1, none⟩ = some (.slice a ts.length cap) := by rw [hW0]; simp [go_sem]
  have hc0 : W0.cell? ⟨w.heap.size + 1, 0, none⟩ = some (.int .i64 k0) := by rw [hW0]; simp [go_sem]
  have hc1 : W0.cell? ⟨w.heap.size + 1, 1, none⟩ = some (.string s0) := by rw [hW0]; simp [go_sem]
  have hc2 : W0.cell? ⟨w.heap.size + 1, 2, none⟩ = some (.string s1) := by rw [hW0]; simp [go_sem]
  have hc3 : W0.cell? ⟨w.heap.size + 1, 3, none⟩ = some (.string s2) := by rw [hW0]; simp [go_sem]
  have he0 : W0.heap[w.heap.size + 2]? = some (.cells #[.int .i64 0, .slice none 0 0] 29 (0, 0)) := by rw [hW0]; have := (MapKept.heap_alloc ((w.alloc (.cells #[.int .i64 room, .slice a ts.length cap] 29)).alloc (.cells #[.int .i64 k0, .string s0, .string s1, .string s2] 31)) (.cells #[.int .i64 0, .slice none 0 0] 29)).1; simpa using this
  have hf0 : W0.heap[w.heap.size]? = some (.cells #[.int .i64 room, .slice a ts.length cap] 29 (0, 0)) := by rw [hW0, Below.heap_alloc _ _ _ (by simp; omega), Below.heap_alloc _ _ _ (by simp)]; exact (MapKept.heap_alloc w _).1
  rw [← hW0] at hb1
  clear hW0
  have hB1 := Lib.hid (hbw.trans (hb1.mono (by omega)))
  have hr1 := (HR.out.below hbw).below hb1
  have d0 := cell_below hd0 hb1
  have d1 := cell_below hd1 hb1
  have c0 := cell_below hc0 hb1
  have c1 := cell_below hc1 hb1
  have c2 := cell_below hc2 hb1
  have c3 := cell_below hc3 hb1
  have hs1 : w.heap.size + 3 ≤ w1.heap.size := by have := hb1.size; omega
  have E1 := (hb1.block _ (lt_heap he0)).trans he0
  have F1 := (hb1.block _ (lt_heap hf0)).trans hf0
  have HH1 := Lib.hid (⟨hr1, E1, F1, hs1⟩ : _ ∧ _ ∧ _ ∧ _)
  clear hd0 hd1 hc0 hc1 hc2 hc3 hbw hsz hb1 he0 hf0 hr1 E1 F1
  go_wp2_with fail
  refine (HF.out _ HH1.out.1).mono ?_
  rintro e w2 ⟨rfl, hb2⟩
  have d0 := cell_below d0 hb2
  have d1 := cell_below d1 hb2
  have c0 := cell_below c0 hb2
  have c1 := cell_below c1 hb2
  have c2 := cell_below c2 hb2
  have c3 := cell_below c3 hb2
  have E2 := (hb2.block _ (lt_heap HH1.out.2.1)).trans HH1.out.2.1
  have F2 := (hb2.block _ (lt_heap HH1.out.2.2.1)).trans HH1.out.2.2.1
  have HH2 := Lib.hid (⟨HH1.out.1.below hb2, E2, F2, Nat.le_trans HH1.out.2.2.2 hb2.size, hB1.out.trans (hb2.mono hB1.out.size)⟩ : _ ∧ _ ∧ _ ∧ _ ∧ _)
  clear hb2 hs1 E2 F2
  go_wp2_with fail
  refine wp_region_last (S := (fun w' => w'.cell? ⟨w.heap.size, 1, none⟩ = some (.slice a ts.length cap) ∧ w'.cell? ⟨w.heap.size + 1, 0, none⟩ = some (.int .i64 k0) ∧ w'.cell? ⟨w.heap.size + 1, 1, none⟩ = some (.string s0) ∧ w'.cell? ⟨w.heap.size + 1, 2, none⟩ = some (.string s1) ∧ w'.cell? ⟨w.heap.size + 1, 3, none⟩ = some (.string s2))) 8 8 (by kernel_rfl) (by kernel_rfl) (by kernel_rfl) ?hSput0 (fun hHeld => ?_)
  case hSput0 => exact ⟨d1, c0, c1, c2, c3⟩
  refine wpAnyH_take (i := 1) (oi := ⟨some 27, _, _, _, _, _⟩) (v := ?vput1) rfl (by kernel_rfl) (by kernel_rfl) (by kernel_rfl) (fun _ _ _ h => h) (Or.inl ⟨by kernel_rfl, ?yput1⟩) (by assumption) ?rput1
  case yput1 =>
    intro w hSw
    try dsimp only at hSw
    first | (go_simp; done) | (go_simp; with_reducible rfl)
  try simp only [Act.put, List.setIfInBounds_toArray, List.set_cons_zero, List.set_cons_succ]
  refine wpAnyH_take (i := 2) (oi := ⟨some 28, _, _, _, _, _⟩) (v := ?vput2) rfl (by kernel_rfl) (by kernel_rfl) (by kernel_rfl) (fun _ _ _ h => h) (Or.inl ⟨by kernel_rfl, ?yput2⟩) (by assumption) ?rput2
  case yput2 =>
    intro w hSw
    try dsimp only at hSw
    first | (go_simp; done) | (go_simp; with_reducible rfl)
  try simp only [Act.put, List.setIfInBounds_toArray, List.set_cons_zero, List.set_cons_succ]
  refine wpAnyH_take (i := 4) (oi := ⟨some 30, _, _, _, _, _⟩) (v := ?vput4) rfl (by kernel_rfl) (by kernel_rfl) (by kernel_rfl) (fun _ _ _ h => h) (Or.inl ⟨by kernel_rfl, ?yput4⟩) (by assumption) ?rput4
  case yput4 =>
    intro w hSw
    try dsimp only at hSw
    first | (go_simp; done) | (go_simp; with_reducible rfl)
  try simp only [Act.put, List.setIfInBounds_toArray, List.set_cons_zero, List.set_cons_succ]
  refine wpAnyH_ready (rs := [0, 5]) (by kernel_rfl) (by simp) ?_
  refine AllReadyH.cons (i := 0) (o := ⟨some 26, _, _, _, _, _⟩) rfl (fun K hK => ?bput0) (AllReadyH.cons (i := 5) (o := ⟨some 31, _, _, _, _, _⟩) rfl (fun K hK => ?bput5) (AllReadyH.nil))
  case' bput0 =>
    go_simp
    have g1 : Below w2.heap.size w2 (w2.drew.alloc (.cells #[] 31)) := (Below.refl _ _).drew.alloc (Nat.le_refl _) _
    have r1 : DocRow (w2.drew.alloc (.cells #[] 31)) w2.heap.size (.slice (some ⟨w2.heap.size, 0, none⟩) 0 0) [] := HE.out w2.drew
    refine hK.out _ _ ?_ (fun hHeld => ?_)
    · exact kept5 ⟨d1, c0, c1, c2, c3⟩ g1
    clear hK K
    try simp only [Act.put, List.setIfInBounds_toArray, List.set_cons_zero, List.set_cons_succ]
    refine wpAnyH_ready (rs := [3, 5]) (by kernel_rfl) (by simp) ?_
    refine AllReadyH.cons (i := 3) (o := ⟨some 29, _, _, _, _, _⟩) rfl (fun K hK => ?bputp03) (AllReadyH.cons (i := 5) (o := ⟨some 31, _, _, _, _, _⟩) rfl (fun K hK => ?bputp05) (AllReadyH.nil))
    case' bputp03 =>
      refine step_append_rows eltR _ (by rfl) (.tmp 26) (.tmp 28) (by rfl) w2.heap.size 0 (.slice (some ⟨w2.heap.size, 0, none⟩) 0 0) (.slice a ts.length cap) [] ts (by rfl) (by rfl) r1 (HH2.out.1.below g1) (by have := HL.out; simp; omega) (by simp) ?_
      intro V3 w3 r3 q3 at3
      have g3 : Below w2.heap.size w2 w3 := g1.grown q3 (by simp) (by simp [Value.ownBlock])
      refine hK.out _ _ ?_ (fun hHeld => ?_)
      · exact kept5 ⟨d1, c0, c1, c2, c3⟩ g3
      clear hK K
      try simp only [Act.put, List.setIfInBounds_toArray, List.set_cons_zero, List.set_cons_succ]
      refine wpAnyH_ready (rs := [5]) (by kernel_rfl) (by simp) ?_
      refine AllReadyH.cons (i := 5) (o := ⟨some 31, _, _, _, _, _⟩) rfl (fun K hK => ?_) AllReadyH.nil
      go_simp
      have g5 : Below w2.heap.size w2 (w3.alloc (.cells #[.int .i64 k0, .string s0, .string s1, .string s2] 31)) := g3.alloc g3.size _
      have r5 := r3.below (w' := w3.alloc (.cells #[.int .i64 k0, .string s0, .string s1, .string s2] 31)) ((Below.refl _ _).alloc (Nat.le_refl _) _)
      have x5 : DocRow (w3.alloc (.cells #[.int .i64 k0, .string s0, .string s1, .string s2] 31)) w3.heap.size (.slice (some ⟨w3.heap.size, 0, none⟩) 1 1) [x] := HRX.out w3
      refine hK.out _ _ ?_ (fun hHeld => ?_)
      · exact kept5 ⟨d1, c0, c1, c2, c3⟩ g5
      clear hK K
      try simp only [Act.put, List.setIfInBounds_toArray, List.set_cons_zero, List.set_cons_succ]
      refine wpAnyH_ready (rs := [6]) (by kernel_rfl) (by simp) ?_
      refine AllReadyH.cons (i := 6) (o := ⟨some 32, _, _, _, _, _⟩) rfl (fun K hK => ?_) AllReadyH.nil
      refine step_append_rows eltR _ (by rfl) (.tmp 29) (.tmp 31) (by rfl) w2.heap.size w3.heap.size V3 (.slice (some ⟨w3.heap.size, 0, none⟩) 1 1) ([] ++ ts) [x] (by rfl) (by rfl) r5 x5 (by have := HL.out; simp; omega) g5.size ?_
      intro V4 w4 r4 q4 at4
      have g4 : Below w2.heap.size w2 w4 := g5.grown q4 g5.size (fun k hk => (r5.own_lt k hk).1)
      obtain ⟨a4, cap4, hV4⟩ := r4.form
      subst hV4
      obtain ⟨y0, y1, y2, y3⟩ := cells2 ((g4.block w.heap.size (by have := HH2.out.2.2.2.1; omega)).trans HH2.out.2.2.1)
      obtain ⟨z0, z1, z2, z3⟩ := cells2 ((g4.block (w.heap.size + 2) (by have := HH2.out.2.2.2.1; omega)).trans HH2.out.2.1)
      have R4 := Lib.hid (⟨r4, g4⟩ : _ ∧ _)
      refine hK.out _ _ ?_ (fun hHeld => ?_)
      · exact kept5 ⟨d1, c0, c1, c2, c3⟩ g4
      clear hK K
      try simp only [Act.put, List.setIfInBounds_toArray, List.set_cons_zero, List.set_cons_succ]
      refine wpAnyH_take (i := 7) (oi := ⟨some 33, _, _, _, _, _⟩) (v := ?vputp0p37) rfl (by kernel_rfl) (by kernel_rfl) (by kernel_rfl) (fun _ _ _ h => h) (Or.inl ⟨by kernel_rfl, ?yputp0p37⟩) (by assumption) ?rputp0p37
      case yputp0p37 =>
        intro w hSw
        try dsimp only at hSw
        first | (go_simp; done) | (go_simp; with_reducible rfl)
      try simp only [Act.put, List.setIfInBounds_toArray, List.set_cons_zero, List.set_cons_succ]
      refine wpAnyH_done (by kernel_rfl) ?_ _
      refine lastQ_normal ?_
      refine wpOp_step (o := ⟨none, _, _, _, _, _⟩) (by rfl) (fun K hK0 => ?_)
      have hK := Lib.hid hK0
      clear hK0
      go_simp
      refine hK.out _ _ ?_
      clear hK K
      try simp only [Act.put, List.setIfInBounds_toArray, List.set_cons_zero, List.set_cons_succ]
    case' bputp05 =>
      go_simp
      have g5 : Below w2.heap.size w2 ((w2.drew.alloc (.cells #[] 31)).alloc (.cells #[.int .i64 k0, .string s0, .string s1, .string s2] 31)) := g1.alloc g1.size _
      have r5 := r1.below (w' := (w2.drew.alloc (.cells #[] 31)).alloc (.cells #[.int .i64 k0, .string s0, .string s1, .string s2] 31)) ((Below.refl _ _).alloc (Nat.le_refl _) _)
      have x5 : DocRow ((w2.drew.alloc (.cells #[] 31)).alloc (.cells #[.int .i64 k0, .string s0, .string s1, .string s2] 31)) w2.heap.size (.slice (some ⟨w2.heap.size + 1, 0, none⟩) 1 1) [x] := by have := (HRX.out (w2.drew.alloc (.cells #[] 31))).base (b' := w2.heap.size) (by simp); simpa using this
      refine hK.out _ _ ?_ (fun hHeld => ?_)
      · exact kept5 ⟨d1, c0, c1, c2, c3⟩ g5
      clear hK K
      try simp only [Act.put, List.setIfInBounds_toArray, List.set_cons_zero, List.set_cons_succ]
      refine wpAnyH_ready (rs := [3]) (by kernel_rfl) (by simp) ?_
      refine AllReadyH.cons (i := 3) (o := ⟨some 29, _, _, _, _, _⟩) rfl (fun K hK => ?_) AllReadyH.nil
      refine step_append_rows eltR _ (by rfl) (.tmp 26) (.tmp 28) (by rfl) w2.heap.size 0 (.slice (some ⟨w2.heap.size, 0, none⟩) 0 0) (.slice a ts.length cap) [] ts (by rfl) (by rfl) r5 (HH2.out.1.below g5) (by have := HL.out; simp; omega) g5.size ?_
      intro V3 w3 r3 q3 at3
      have g3 : Below w2.heap.size w2 w3 := g5.grown q3 g5.size (by simp [Value.ownBlock])
      have x3 := RowOf.kept_row x5 q3 (by simp [Value.ownBlock])
      refine hK.out _ _ ?_ (fun hHeld => ?_)
      · exact kept5 ⟨d1, c0, c1, c2, c3⟩ g3
      clear hK K
      try simp only [Act.put, List.setIfInBounds_toArray, List.set_cons_zero, List.set_cons_succ]
      refine wpAnyH_ready (rs := [6]) (by kernel_rfl) (by simp) ?_
      refine AllReadyH.cons (i := 6) (o := ⟨some 32, _, _, _, _, _⟩) rfl (fun K hK => ?_) AllReadyH.nil
      refine step_append_rows eltR _ (by rfl) (.tmp 29) (.tmp 31) (by rfl) w2.heap.size w2.heap.size V3 (.slice (some ⟨w2.heap.size + 1, 0, none⟩) 1 1) ([] ++ ts) [x] (by rfl) (by rfl) r3 x3 (by have := HL.out; simp; omega) g3.size ?_
      intro V4 w4 r4 q4 at4
      have g4 : Below w2.heap.size w2 w4 := g3.grown q4 g3.size (fun k hk => (r3.own_lt k hk).1)
      obtain ⟨a4, cap4, hV4⟩ := r4.form
      subst hV4
      obtain ⟨y0, y1, y2, y3⟩ := cells2 ((g4.block w.heap.size (by have := HH2.out.2.2.2.1; omega)).trans HH2.out.2.2.1)
      obtain ⟨z0, z1, z2, z3⟩ := cells2 ((g4.block (w.heap.size + 2) (by have := HH2.out.2.2.2.1; omega)).trans HH2.out.2.1)
      have R4 := Lib.hid (⟨r4, g4⟩ : _ ∧ _)
      refine hK.out _ _ ?_ (fun hHeld => ?_)
      · exact kept5 ⟨d1, c0, c1, c2, c3⟩ g4
      clear hK K
      try simp only [Act.put, List.setIfInBounds_toArray, List.set_cons_zero, List.set_cons_succ]
      refine wpAnyH_take (i := 7) (oi := ⟨some 33, _, _, _, _, _⟩) (v := ?vputp0p57) rfl (by kernel_rfl) (by kernel_rfl) (by kernel_rfl) (fun _ _ _ h => h) (Or.inl ⟨by kernel_rfl, ?yputp0p57⟩) (by assumption) ?rputp0p57
      case yputp0p57 =>
        intro w hSw
        try dsimp only at hSw
        first | (go_simp; done) | (go_simp; with_reducible rfl)
      try simp only [Act.put, List.setIfInBounds_toArray, List.set_cons_zero, List.set_cons_succ]
      refine wpAnyH_done (by kernel_rfl) ?_ _
      refine lastQ_normal ?_
      refine wpOp_step (o := ⟨none, _, _, _, _, _⟩) (by rfl) (fun K hK0 => ?_)
      have hK := Lib.hid hK0
      clear hK0
      go_simp
      refine hK.out _ _ ?_
      clear hK K
      try simp only [Act.put, List.setIfInBounds_toArray, List.set_cons_zero, List.set_cons_succ]
  case' bput5 =>
    go_simp
    have g5 : Below w2.heap.size w2 (w2.drew.alloc (.cells #[.int .i64 k0, .string s0, .string s1, .string s2] 31)) := (Below.refl _ _).drew.alloc (Nat.le_refl _) _
    have x5 : DocRow (w2.drew.alloc (.cells #[.int .i64 k0, .string s0, .string s1, .string s2] 31)) w2.heap.size (.slice (some ⟨w2.heap.size, 0, none⟩) 1 1) [x] := HRX.out w2.drew
    refine hK.out _ _ ?_ (fun hHeld => ?_)
    · exact kept5 ⟨d1, c0, c1, c2, c3⟩ g5
    clear hK K
    try simp only [Act.put, List.setIfInBounds_toArray, List.set_cons_zero, List.set_cons_succ]
    refine wpAnyH_ready (rs := [0]) (by kernel_rfl) (by simp) ?_
    refine AllReadyH.cons (i := 0) (o := ⟨some 26, _, _, _, _, _⟩) rfl (fun K hK => ?_) AllReadyH.nil
    go_simp
    have g1 : Below w2.heap.size w2 ((w2.drew.alloc (.cells #[.int .i64 k0, .string s0, .string s1, .string s2] 31)).alloc (.cells #[] 31)) := g5.alloc g5.size _
    have r1 : DocRow ((w2.drew.alloc (.cells #[.int .i64 k0, .string s0, .string s1, .string s2] 31)).alloc (.cells #[] 31)) w2.heap.size (.slice (some ⟨w2.heap.size + 1, 0, none⟩) 0 0) [] := by have := (HE.out (w2.drew.alloc (.cells #[.int .i64 k0, .string s0, .string s1, .string s2] 31))).base (b' := w2.heap.size) (by simp); simpa using this
    have x1 := x5.below (w' := (w2.drew.alloc (.cells #[.int .i64 k0, .string s0, .string s1, .string s2] 31)).alloc (.cells #[] 31)) ((Below.refl _ _).alloc (Nat.le_refl _) _)
    refine hK.out _ _ ?_ (fun hHeld => ?_)
    · exact kept5 ⟨d1, c0, c1, c2, c3⟩ g1
    clear hK K
    try simp only [Act.put, List.setIfInBounds_toArray, List.set_cons_zero, List.set_cons_succ]
    refine wpAnyH_ready (rs := [3]) (by kernel_rfl) (by simp) ?_
    refine AllReadyH.cons (i := 3) (o := ⟨some 29, _, _, _, _, _⟩) rfl (fun K hK => ?_) AllReadyH.nil
    refine step_append_rows eltR _ (by rfl) (.tmp 26) (.tmp 28) (by rfl) w2.heap.size 0 (.slice (some ⟨w2.heap.size + 1, 0, none⟩) 0 0) (.slice a ts.length cap) [] ts (by rfl) (by rfl) r1 (HH2.out.1.below g1) (by have := HL.out; simp; omega) g1.size ?_
    intro V3 w3 r3 q3 at3
    have g3 : Below w2.heap.size w2 w3 := g1.grown q3 g1.size (by simp [Value.ownBlock])
    have x3 := RowOf.kept_row x1 q3 (by simp [Value.ownBlock])
    refine hK.out _ _ ?_ (fun hHeld => ?_)
    · exact kept5 ⟨d1, c0, c1, c2, c3⟩ g3
    clear hK K
    try simp only [Act.put, List.setIfInBounds_toArray, List.set_cons_zero, List.set_cons_succ]
    refine wpAnyH_ready (rs := [6]) (by kernel_rfl) (by simp) ?_
    refine AllReadyH.cons (i := 6) (o := ⟨some 32, _, _, _, _, _⟩) rfl (fun K hK => ?_) AllReadyH.nil
    refine step_append_rows eltR _ (by rfl) (.tmp 29) (.tmp 31) (by rfl) w2.heap.size w2.heap.size V3 (.slice (some ⟨w2.heap.size, 0, none⟩) 1 1) ([] ++ ts) [x] (by rfl) (by rfl) r3 x3 (by have := HL.out; simp; omega) g3.size ?_
    intro V4 w4 r4 q4 at4
    have g4 : Below w2.heap.size w2 w4 := g3.grown q4 g3.size (fun k hk => (r3.own_lt k hk).1)
    obtain ⟨a4, cap4, hV4⟩ := r4.form
    subst hV4
    obtain ⟨y0, y1, y2, y3⟩ := cells2 ((g4.block w.heap.size (by have := HH2.out.2.2.2.1; omega)).trans HH2.out.2.2.1)
    obtain ⟨z0, z1, z2, z3⟩ := cells2 ((g4.block (w.heap.size + 2) (by have := HH2.out.2.2.2.1; omega)).trans HH2.out.2.1)
    have R4 := Lib.hid (⟨r4, g4⟩ : _ ∧ _)
    refine hK.out _ _ ?_ (fun hHeld => ?_)
    · exact kept5 ⟨d1, c0, c1, c2, c3⟩ g4
    clear hK K
    try simp only [Act.put, List.setIfInBounds_toArray, List.set_cons_zero, List.set_cons_succ]
    refine wpAnyH_take (i := 7) (oi := ⟨some 33, _, _, _, _, _⟩) (v := ?vputp57) rfl (by kernel_rfl) (by kernel_rfl) (by kernel_rfl) (fun _ _ _ h => h) (Or.inl ⟨by kernel_rfl, ?yputp57⟩) (by assumption) ?rputp57
    case yputp57 =>
      intro w hSw
      try dsimp only at hSw
      first | (go_simp; done) | (go_simp; with_reducible rfl)
    try simp only [Act.put, List.setIfInBounds_toArray, List.set_cons_zero, List.set_cons_succ]
    refine wpAnyH_done (by kernel_rfl) ?_ _
    refine lastQ_normal ?_
    refine wpOp_step (o := ⟨none, _, _, _, _, _⟩) (by rfl) (fun K hK0 => ?_)
    have hK := Lib.hid hK0
    clear hK0
    go_simp
    refine hK.out _ _ ?_
    clear hK K
    try simp only [Act.put, List.setIfInBounds_toArray, List.set_cons_zero, List.set_cons_succ]
  all_goals (
    have b1 : (0 : Int) ≤ (ts.length : Int) := by omega
    have b2 : (ts.length : Int) ≤ 100000 := by have := HL.out; omega
    clear hHeld d0 d1 c0 c1 c2 c3
    go_wp2_with fail
    obtain ⟨w5, hw5⟩ : ∃ w5, w5 = w4.setCell ⟨w.heap.size, 1, none⟩ (.slice a4 (ts.length + 1) cap4) := ⟨_, rfl⟩
    have n0 : w5.cell? ⟨w.heap.size, 0, none⟩ = some (.int .i64 room) := by rw [hw5]; simp [go_sem, y0]
    have n1 : w5.cell? ⟨w.heap.size, 1, none⟩ = some (.slice a4 (ts.length + 1) cap4) := by rw [hw5]; simp [go_sem, y1]
    have m0 : w5.cell? ⟨w.heap.size + 2, 0, none⟩ = some (.int .i64 0) := by rw [hw5]; simp [go_sem, z0]
    have m1 : w5.cell? ⟨w.heap.size + 2, 1, none⟩ = some (.slice none 0 0) := by rw [hw5]; simp [go_sem, z1]
    have m2 : w5.frozen? ⟨w.heap.size + 2, 0, none⟩ = false := by rw [hw5]; simp [go_sem, z2]
    have m3 : w5.frozen? ⟨w.heap.size + 2, 1, none⟩ = false := by rw [hw5]; simp [go_sem, z3]
    have HW5 := Lib.hid hw5
    rw [← hw5]
    clear hw5 y0 y1 y2 y3 z0 z1 z2 z3 r4 at4 b1
    go_region
    go_wp2_with fail
    have HB0 := HH2.out.2.2.2.2
    refine bodyPost_ret (v := .tuple #[.agg #[.int .i64 room, .slice a4 (ts.length + 1) cap4], .int .i64 ts.length, .int .i64 0]) (by simp [results, Try.results12, go_sem, m0, m1]) rfl ?_
    rw [HW5.out]
    have hr4 : DocRow w4 w2.heap.size (.slice a4 (ts.length + 1) cap4) (ts ++ [x]) := by simpa using R4.out.1
    obtain ⟨f1, f2⟩ := rput_end hr4 R4.out.2 HB0 HH2.out.2.2.2.1 (.slice a4 (ts.length + 1) cap4) (.int .i64 room) (.slice a4 (ts.length + 1) cap4)
    exact ⟨.slice a4 (ts.length + 1) cap4, rfl, f1, f2⟩)
end Go.Proofs.Ytghimladdioajaa
