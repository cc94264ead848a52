/- Contracts over this seat's program: Triple's Text, nt.Print: good triples' signs, as bytes. -/
import Derived.Test.YtbchkhjkajagfaaGreatDoorNtText
namespace Go.Proofs.YtbchkhjkajagfaaGreatDoor
open Go Go.RowKit
set_option linter.unusedVariables false
set_option linter.unusedSimpArgs false
set_option maxRecDepth 100000
theorem tmS_len {X : Tm} (hX : GoodS X) (hz : Small X) : (tmS X).length ≤ 8000000 := by
  obtain ⟨z0, z1, z2⟩ := hz
  cases X with
  | blank s =>
    have h1 : (sg s).length ≤ s.size := read_len hX.1
    have z0 : s.size ≤ 1000000 := z0
    rw [tmS_blank]; simp only [List.length_cons]; omega
  | iri s =>
    have h1 : (sg s).length ≤ s.size := read_len hX.1
    have z0 : s.size ≤ 1000000 := z0
    rw [tmS_iri]; simp only [List.length_cons, List.length_append, List.length_nil]; omega
  | lit s t g =>
    have h1 : (sg s).length ≤ s.size := read_len hX.1
    have h2 : (sg t).length ≤ t.size := read_len hX.2.1
    have z0 : s.size ≤ 1000000 := z0
    have z1 : t.size ≤ 1000000 := z1
    have z2 : g.size ≤ 1000000 := z2
    have hq := qsigns_le (sg s)
    rw [tmS_lit]
    rcases hX.2.2.2 with ⟨rfl, _⟩ | ⟨hne, _, hg, _⟩
    · rw [if_pos rfl]
      split
      · simp only [List.length_append, List.length_nil]; omega
      · simp only [List.length_append, List.length_cons, List.length_nil]; omega
    · have h3 : (sg g).length ≤ g.size := read_len hg
      rw [if_neg hne]
      simp only [List.length_append, List.length_cons]; omega
  | odd n => exact hX.elim
  | none => exact hX.elim
theorem triS_len {G : Tm → Bool} {t : Tri} (ht : GoodTri G t) (hz : SmallTri t) : (triS t).length ≤ 24000010 := by
  have h1 := tmS_len ht.1.1 hz.1
  have h2 := tmS_len ht.2.1.1 hz.2.1
  have h3 := tmS_len ht.2.2.1 hz.2.2
  unfold triS
  simp only [List.length_append, List.length_cons, List.length_nil]
  omega
theorem tx_tri (t : Tri) : (((((tBytes (tmS t.s) ++ ⟨#[32]⟩) ++ tBytes (tmS t.p)) ++ ⟨#[32]⟩) ++ tBytes (tmS t.o)) ++ ⟨#[32, 46]⟩) = tBytes (triS t) := by
  refine ba_eq ?_
  rw [join_data, join_data, join_data, join_data, join_data, tB_data, tB_data, tB_data, tB_data]
  unfold triS
  rw [textB_append, enc_lit (b := 32) (by decide), textB_append, enc_lit (b := 32) (by decide), textB_append, enc_lit (b := 32) (by decide), enc_lit (b := 46) (by decide)]
  simp
  rfl
set_option maxHeartbeats 3200000 in
theorem tritext_any {G : Tm → Bool} {t : Tri} (ht : GoodTri G t) (hz : SmallTri t) (w : World) (he : Esc w) : Calls Tryz.prog 18 #[triV t] w fun e w' => e = .returned (.string (tBytes (triS t))) ∧ Below w.heap.size w w' := by
  have HT1 := Lib.hid (fun w1 (hb : Below w.heap.size w w1) => text_good ht.1.1 hz.1 w1 (he.below he.lt hb))
  have HT2 := Lib.hid (fun w1 (hb : Below w.heap.size w w1) => text_good ht.2.1.1 hz.2.1 w1 (he.below he.lt hb))
  have HT3 := Lib.hid (fun w1 (hb : Below w.heap.size w w1) => text_good ht.2.2.1 hz.2.2 w1 (he.below he.lt hb))
  have l1 := tmS_len ht.1.1 hz.1
  have l2 := tmS_len ht.2.1.1 hz.2.1
  have l3 := tmS_len ht.2.2.1 hz.2.2
  have b1 := tB_size (tmS t.s)
  have b2 := tB_size (tmS t.p)
  have b3 := tB_size (tmS t.o)
  have hE := tx_tri t
  unfold triV
  generalize tBytes (triS t) = Z at *
  generalize tBytes (tmS t.s) = A at *
  generalize tBytes (tmS t.p) = B at *
  generalize tBytes (tmS t.o) = C at *
  generalize tmV t.s = VS at *
  generalize tmV t.p = VP at *
  generalize tmV t.o = VO at *
  have s1 : (A ++ ⟨#[32]⟩ : ByteArray).size = A.size + 1 := by rw [ByteArray.size_append]; rfl
  have s2 : ((A ++ ⟨#[32]⟩) ++ B : ByteArray).size = A.size + 1 + B.size := by rw [ByteArray.size_append, s1]
  have s3 : (((A ++ ⟨#[32]⟩) ++ B) ++ ⟨#[32]⟩ : ByteArray).size = A.size + 1 + B.size + 1 := by rw [ByteArray.size_append, s2]; rfl
  have s4 : ((((A ++ ⟨#[32]⟩) ++ B) ++ ⟨#[32]⟩) ++ C : ByteArray).size = A.size + 1 + B.size + 1 + C.size := by rw [ByteArray.size_append, s3]
  have z1 : (⟨#[32]⟩ : ByteArray).size = 1 := rfl
  have z2 : (⟨#[32, 46]⟩ : ByteArray).size = 2 := rfl
  have g1 : ∀ w : World, (Op.stringOp .add A ⟨#[32]⟩).run Tryz.prog w = .ok (.string (A ++ ⟨#[32]⟩)) w := add_str _ _ (by omega)
  have g2 : ∀ w : World, (Op.stringOp .add (A ++ ⟨#[32]⟩) B).run Tryz.prog w = .ok (.string ((A ++ ⟨#[32]⟩) ++ B)) w := add_str _ _ (by omega)
  have g3 : ∀ w : World, (Op.stringOp .add ((A ++ ⟨#[32]⟩) ++ B) ⟨#[32]⟩).run Tryz.prog w = .ok (.string (((A ++ ⟨#[32]⟩) ++ B) ++ ⟨#[32]⟩)) w := add_str _ _ (by omega)
  have g4 : ∀ w : World, (Op.stringOp .add (((A ++ ⟨#[32]⟩) ++ B) ++ ⟨#[32]⟩) C).run Tryz.prog w = .ok (.string ((((A ++ ⟨#[32]⟩) ++ B) ++ ⟨#[32]⟩) ++ C)) w := add_str _ _ (by omega)
  have g5 : ∀ w : World, (Op.stringOp .add ((((A ++ ⟨#[32]⟩) ++ B) ++ ⟨#[32]⟩) ++ C) ⟨#[32, 46]⟩).run Tryz.prog w = .ok (.string (((((A ++ ⟨#[32]⟩) ++ B) ++ ⟨#[32]⟩) ++ C) ++ ⟨#[32, 46]⟩)) w := add_str _ _ (by omega)
  rw [hE] at g5
  generalize ((((A ++ ⟨#[32]⟩) ++ B) ++ ⟨#[32]⟩) ++ C : ByteArray) = Y4 at *
  generalize (((A ++ ⟨#[32]⟩) ++ B) ++ ⟨#[32]⟩ : ByteArray) = Y3 at *
  generalize ((A ++ ⟨#[32]⟩) ++ B : ByteArray) = Y2 at *
  generalize (A ++ ⟨#[32]⟩ : ByteArray) = Y1 at *
  clear hE s1 s2 s3 s4 z1 z2 l1 l2 l3 b1 b2 b3 ht hz he
  obtain ⟨W1, hW1⟩ : ∃ W1, W1 = w.alloc (.cells #[VS, VP, VO] 46) := ⟨_, rfl⟩
  have HB1 : Hid (Below w.heap.size w W1) := Lib.hid (by rw [hW1]; exact (Below.refl _ _).alloc (Nat.le_refl _) _)
  have HX1 : Hid (W1.heap[w.heap.size]? = some (.cells #[VS, VP, VO] 46 (0, 0))) := Lib.hid (by rw [hW1]; exact blk_new w _ _)
  have HW1 := Lib.hid hW1
  clear hW1
  go_enter Tryz.func18, Tryz.ntmps18
  go_wp2_with fail
  rw [← HW1.out]
  refine wp_region_held_drew (S := (fun w' => w'.heap[w.heap.size]? = some (.cells #[VS, VP, VO] 46 (0, 0)))) (by kernel_rfl) ?hStri0 (fun hHeld => ?_)
  case hStri0 => exact HX1.out
  refine wpAnyH_take (i := 0) (oi := ⟨some 3, _, _, _, _, _⟩) (v := ?vtri0) rfl (by kernel_rfl) (by kernel_rfl) (by kernel_rfl) (fun _ _ _ h => h) (Or.inl ⟨by kernel_rfl, ?ytri0⟩) (by assumption) ?rtri0
  case ytri0 =>
    intro w hSw
    try dsimp only at hSw
    obtain ⟨c0, c1, c2⟩ := blk3f hSw
    first | (go_simp; done) | (go_simp; with_reducible rfl)
  try simp only [Act.put, List.setIfInBounds_toArray, List.set_cons_zero, List.set_cons_succ]
  refine wpAnyH_take (i := 1) (oi := ⟨some 4, _, _, _, _, _⟩) (v := ?vtri1) rfl (by kernel_rfl) (by kernel_rfl) (by kernel_rfl) (fun _ _ _ h => h) (Or.inl ⟨by kernel_rfl, ?ytri1⟩) (by assumption) ?rtri1
  case ytri1 =>
    intro w hSw
    try dsimp only at hSw
    obtain ⟨c0, c1, c2⟩ := blk3f hSw
    first | (go_simp; done) | (go_simp; with_reducible rfl)
  try simp only [Act.put, List.setIfInBounds_toArray, List.set_cons_zero, List.set_cons_succ]
  refine wpAnyH_take (i := 4) (oi := ⟨some 7, _, _, _, _, _⟩) (v := ?vtri4) rfl (by kernel_rfl) (by kernel_rfl) (by kernel_rfl) (fun _ _ _ h => h) (Or.inl ⟨by kernel_rfl, ?ytri4⟩) (by assumption) ?rtri4
  case ytri4 =>
    intro w hSw
    try dsimp only at hSw
    obtain ⟨c0, c1, c2⟩ := blk3f hSw
    first | (go_simp; done) | (go_simp; with_reducible rfl)
  try simp only [Act.put, List.setIfInBounds_toArray, List.set_cons_zero, List.set_cons_succ]
  refine wpAnyH_take (i := 5) (oi := ⟨some 8, _, _, _, _, _⟩) (v := ?vtri5) rfl (by kernel_rfl) (by kernel_rfl) (by kernel_rfl) (fun _ _ _ h => h) (Or.inl ⟨by kernel_rfl, ?ytri5⟩) (by assumption) ?rtri5
  case ytri5 =>
    intro w hSw
    try dsimp only at hSw
    obtain ⟨c0, c1, c2⟩ := blk3f hSw
    first | (go_simp; done) | (go_simp; with_reducible rfl)
  try simp only [Act.put, List.setIfInBounds_toArray, List.set_cons_zero, List.set_cons_succ]
  refine wpAnyH_take (i := 9) (oi := ⟨some 12, _, _, _, _, _⟩) (v := ?vtri9) rfl (by kernel_rfl) (by kernel_rfl) (by kernel_rfl) (fun _ _ _ h => h) (Or.inl ⟨by kernel_rfl, ?ytri9⟩) (by assumption) ?rtri9
  case ytri9 =>
    intro w hSw
    try dsimp only at hSw
    obtain ⟨c0, c1, c2⟩ := blk3f hSw
    first | (go_simp; done) | (go_simp; with_reducible rfl)
  try simp only [Act.put, List.setIfInBounds_toArray, List.set_cons_zero, List.set_cons_succ]
  refine wpAnyH_take (i := 10) (oi := ⟨some 13, _, _, _, _, _⟩) (v := ?vtri10) rfl (by kernel_rfl) (by kernel_rfl) (by kernel_rfl) (fun _ _ _ h => h) (Or.inl ⟨by kernel_rfl, ?ytri10⟩) (by assumption) ?rtri10
  case ytri10 =>
    intro w hSw
    try dsimp only at hSw
    obtain ⟨c0, c1, c2⟩ := blk3f hSw
    first | (go_simp; done) | (go_simp; with_reducible rfl)
  try simp only [Act.put, List.setIfInBounds_toArray, List.set_cons_zero, List.set_cons_succ]
  refine wpAnyH_ready (rs := [2]) (by kernel_rfl) (by simp) ?_
  refine AllReadyH.cons (i := 2) (o := ⟨some 5, _, _, _, _, _⟩) rfl (fun K hK => ?_) AllReadyH.nil
  go_simp
  refine (HT1.out _ HB1.out.drew).mono ?_
  rintro e w2 ⟨rfl, hb2⟩
  have HB2 := Lib.hid (HB1.out.drew.trans (hb2.mono (show w.heap.size ≤ W1.drew.heap.size from HB1.out.size)))
  go_wp2_with fail
  refine hK.out _ _ ?_ (fun hHeld => ?_)
  · exact blk_below (by assumption) hb2
  clear hK K
  try simp only [Act.put, List.setIfInBounds_toArray, List.set_cons_zero, List.set_cons_succ]
  refine wpAnyH_take (i := 3) (oi := ⟨some 6, _, _, _, _, _⟩) (v := ?vtri3) rfl (by kernel_rfl) (by kernel_rfl) (by kernel_rfl) (fun _ _ _ h => h) (Or.inl ⟨by kernel_rfl, ?ytri3⟩) (by assumption) ?rtri3
  case ytri3 =>
    intro w hSw
    try dsimp only at hSw
    obtain ⟨c0, c1, c2⟩ := blk3f hSw
    first | (go_simp; done) | (go_simp; with_reducible rfl)
  try simp only [Act.put, List.setIfInBounds_toArray, List.set_cons_zero, List.set_cons_succ]
  refine wpAnyH_ready (rs := [6]) (by kernel_rfl) (by simp) ?_
  refine AllReadyH.cons (i := 6) (o := ⟨some 9, _, _, _, _, _⟩) rfl (fun K hK => ?_) AllReadyH.nil
  go_simp
  refine (HT2.out _ HB2.out).mono ?_
  rintro e w3 ⟨rfl, hb3⟩
  have HB3 := Lib.hid (HB2.out.trans (hb3.mono HB2.out.size))
  go_wp2_with fail
  refine hK.out _ _ ?_ (fun hHeld => ?_)
  · exact blk_below (by assumption) hb3
  clear hK K
  try simp only [Act.put, List.setIfInBounds_toArray, List.set_cons_zero, List.set_cons_succ]
  refine wpAnyH_take (i := 7) (oi := ⟨some 10, _, _, _, _, _⟩) (v := ?vtri7) rfl (by kernel_rfl) (by kernel_rfl) (by kernel_rfl) (fun _ _ _ h => h) (Or.inl ⟨by kernel_rfl, ?ytri7⟩) (by assumption) ?rtri7
  case ytri7 =>
    intro w hSw
    try dsimp only at hSw
    obtain ⟨c0, c1, c2⟩ := blk3f hSw
    first | (go_simp; done) | (go_simp; with_reducible rfl)
  try simp only [Act.put, List.setIfInBounds_toArray, List.set_cons_zero, List.set_cons_succ]
  refine wpAnyH_take (i := 8) (oi := ⟨some 11, _, _, _, _, _⟩) (v := ?vtri8) rfl (by kernel_rfl) (by kernel_rfl) (by kernel_rfl) (fun _ _ _ h => h) (Or.inl ⟨by kernel_rfl, ?ytri8⟩) (by assumption) ?rtri8
  case ytri8 =>
    intro w hSw
    try dsimp only at hSw
    obtain ⟨c0, c1, c2⟩ := blk3f hSw
    first | (go_simp; done) | (go_simp; with_reducible rfl)
  try simp only [Act.put, List.setIfInBounds_toArray, List.set_cons_zero, List.set_cons_succ]
  refine wpAnyH_ready (rs := [11]) (by kernel_rfl) (by simp) ?_
  refine AllReadyH.cons (i := 11) (o := ⟨some 14, _, _, _, _, _⟩) rfl (fun K hK => ?_) AllReadyH.nil
  go_simp
  refine (HT3.out _ HB3.out).mono ?_
  rintro e w4 ⟨rfl, hb4⟩
  have HB4 := Lib.hid (HB3.out.trans (hb4.mono HB3.out.size))
  go_wp2_with fail
  refine hK.out _ _ ?_ (fun hHeld => ?_)
  · exact blk_below (by assumption) hb4
  clear hK K
  try simp only [Act.put, List.setIfInBounds_toArray, List.set_cons_zero, List.set_cons_succ]
  refine wpAnyH_take (i := 12) (oi := ⟨some 15, _, _, _, _, _⟩) (v := ?vtri12) rfl (by kernel_rfl) (by kernel_rfl) (by kernel_rfl) (fun _ _ _ h => h) (Or.inl ⟨by kernel_rfl, ?ytri12⟩) (by assumption) ?rtri12
  case ytri12 =>
    intro w hSw
    try dsimp only at hSw
    obtain ⟨c0, c1, c2⟩ := blk3f hSw
    first | (go_simp; done) | (go_simp; with_reducible rfl)
  try simp only [Act.put, List.setIfInBounds_toArray, List.set_cons_zero, List.set_cons_succ]
  refine wpAnyH_take (i := 13) (oi := ⟨some 16, _, _, _, _, _⟩) (v := ?vtri13) rfl (by kernel_rfl) (by kernel_rfl) (by kernel_rfl) (fun _ _ _ h => h) (Or.inl ⟨by kernel_rfl, ?ytri13⟩) (by assumption) ?rtri13
  case ytri13 =>
    intro w hSw
    try dsimp only at hSw
    obtain ⟨c0, c1, c2⟩ := blk3f hSw
    first | (go_simp; done) | (go_simp; with_reducible rfl)
  try simp only [Act.put, List.setIfInBounds_toArray, List.set_cons_zero, List.set_cons_succ]
  refine wpAnyH_take (i := 14) (oi := ⟨some 2, _, _, _, _, _⟩) (v := ?vtri14) rfl (by kernel_rfl) (by kernel_rfl) (by kernel_rfl) (fun _ _ _ h => h) (Or.inl ⟨by kernel_rfl, ?ytri14⟩) (by assumption) ?rtri14
  case ytri14 =>
    intro w hSw
    try dsimp only at hSw
    obtain ⟨c0, c1, c2⟩ := blk3f hSw
    first | (go_simp; done) | (go_simp; with_reducible rfl)
  try simp only [Act.put, List.setIfInBounds_toArray, List.set_cons_zero, List.set_cons_succ]
  refine wpAnyH_done (by kernel_rfl) ?_ _
  go_wp2_with fail
  go_ret
  exact ⟨rfl, HB4.out⟩
theorem linesS_take {ts : List Tri} {k : Nat} (hk : k < ts.length) : textB (linesS (ts.take k)) ++ (textB (triS (ts[k]'hk)) ++ [10]) = textB (linesS (ts.take (k + 1))) := by
  rw [List.take_succ_eq_append_getElem hk]
  unfold linesS
  rw [List.flatMap_append, textB_append, List.flatMap_singleton]
  unfold lineS
  rw [textB_append, enc_lit (n := 10) (b := 10) (by decide)]
  rfl
theorem lines_len {G : Tm → Bool} : ∀ (ts : List Tri), (∀ t ∈ ts, GoodTri G t ∧ SmallTri t) → (linesS ts).length ≤ 24000011 * ts.length
  | [], _ => by simp [linesS]
  | t :: ts, h => by
    have h1 := lines_len ts (fun x hx => h x (List.mem_cons_of_mem _ hx))
    have h2 := h t List.mem_cons_self
    have h3 := triS_len h2.1 h2.2
    unfold linesS at h1 ⊢
    rw [List.flatMap_cons, List.length_append, List.length_cons]
    unfold lineS at h1 ⊢
    rw [List.length_append]
    simp only [List.length_cons, List.length_nil]
    omega
/-- a builder of the call's own, beside what was there -/
def PB (w : World) (bs : List UInt8) (wr : World) : Prop := BdAt w.heap.size bs wr ∧ Below w.heap.size w wr
theorem PB.below {w wr w' : World} {bs : List UInt8} (h : PB w bs wr) (hb : Below wr.heap.size wr w') : PB w bs w' := ⟨h.1.same (fun k _ hk => hb.block k hk), h.2.trans (hb.mono h.2.size)⟩
theorem PB.build {w wr w' : World} {bs bs' : List UInt8} {c : List Value} (h : PB w bs wr) (hb : BuilderW w.heap.size w.heap.size c wr w') (hc : c = Lib.byteCells bs') : PB w bs' w' := ⟨.inr (hc ▸ hb.1), h.2.trans hb.2.1⟩
theorem goodS_iface {X : Tm} (h : GoodS X) : ∃ T Y, tmV X = .iface T Y := by
  cases X with
  | blank s => exact ⟨_, _, rfl⟩
  | iri s => exact ⟨_, _, rfl⟩
  | lit s t l => exact ⟨_, _, rfl⟩
  | odd n => exact h.elim
  | none => exact h.elim
set_option maxHeartbeats 6400000 in
theorem print_any {G : Tm → Bool} {base : Nat} {V : Value} {ts : List Tri} (w : World) (hr : TriRow w base V ts) (ht : ∀ t ∈ ts, GoodTri G t ∧ SmallTri t) (hn : ts.length ≤ 100000) (he : Esc w) :
    Calls Tryz.prog 19 #[V] w fun e w' => e = .returned (.string (tBytes (linesS ts))) ∧ Below w.heap.size w w' := by
  obtain ⟨a, cap, rfl⟩ := hr.form
  have HR := Lib.hid hr
  have HTX := Lib.hid (fun k (hk : k < ts.length) w1 (hb : Below w.heap.size w w1) => tritext_any (ht _ (List.getElem_mem hk)).1 (ht _ (List.getElem_mem hk)).2 w1 (he.below he.lt hb))
  have HLN := Lib.hid (fun k (hk : k < ts.length) => triS_len (ht _ (List.getElem_mem hk)).1 (ht _ (List.getElem_mem hk)).2)
  have HLL := Lib.hid (fun k => lines_len (ts.take k) (fun t h => ht t (List.mem_of_mem_take h)))
  have HSN := Lib.hid (fun k (hk : k < ts.length) => linesS_take hk)
  have HIF := Lib.hid (fun k (hk : k < ts.length) => (⟨goodS_iface (ht _ (List.getElem_mem hk)).1.1.1, goodS_iface (ht _ (List.getElem_mem hk)).1.2.1.1, goodS_iface (ht _ (List.getElem_mem hk)).1.2.2.1⟩ : _ ∧ _ ∧ _))
  have hn0 : ts.length ≤ 9223372036854775807 := by omega
  clear hr ht he
  have HP0 : Hid (PB w [] (w.alloc (.cells #[.pointer none, .slice none 0 0] 88))) := Lib.hid ⟨Lib.IsBuilderF.of (Lib.fresh_isBuilder 88 5 w), (Below.refl _ _).alloc (Nat.le_refl _) _⟩
  go_enter Tryz.func19, Tryz.ntmps19
  go_wp2_with fail
  go_loopw [8] (fun i wr => ∃ k : Nat, k ≤ ts.length ∧ i = .int .i64 k ∧ Hid (PB w (textB (linesS (ts.take k))) wr)) (fun i _ => ts.length - (intOf i).toNat)
  case atStart => exact ⟨0, by omega, rfl, HP0⟩
  case round =>
    obtain ⟨k, hk, rfl, HP⟩ := hrel
    clear HP0
    by_cases hlt : k < ts.length
    · obtain ⟨g, c1, hv, hg, a0, a1, a2⟩ := tri_at (HR.out.below HP.out.2) k hlt
      obtain rfl : a = some ⟨g, 0, none⟩ := by injection hv
      have HT := Lib.hid (HTX.out k hlt)
      have HS := Lib.hid (HSN.out k hlt)
      have b1 := HLN.out k hlt
      have b2 := HLL.out k
      have b3 : (ts.take k).length ≤ ts.length := by rw [List.length_take]; omega
      have b4 := textB_le (linesS (ts.take k))
      have b5 := tB_size (triS (ts[k]'hlt))
      have b6 : (tBytes (triS (ts[k]'hlt))).data.toList = textB (triS (ts[k]'hlt)) := tB_data _
      obtain ⟨⟨T1, Y1, e1⟩, ⟨T2, Y2, e2⟩, ⟨T3, Y3, e3⟩⟩ := HIF.out k hlt
      obtain ⟨t, htt⟩ : ∃ t, t = ts[k]'hlt := ⟨_, rfl⟩
      rw [← htt] at e1 e2 e3
      rw [← htt] at a0 a1 a2 HT HS b1 b5 b6
      obtain ⟨L, hL⟩ : ∃ L, L = textB (linesS (ts.take k)) := ⟨_, rfl⟩
      rw [← hL] at HP HS b4
      have HB6 := Lib.hid b6
      unfold triV at HT
      rw [e1, e2, e3] at HT
      rw [e1] at a0
      rw [e2] at a1
      rw [e3] at a2
      have i1 : (0 : Int) ≤ (k : Int) := by omega
      have i2 : (k : Int) < (ts.length : Int) := by omega
      have hlen : L.length ≤ 9600004400000 := by omega
      have hlen2 : (tBytes (triS t)).size ≤ 96000040 := by omega
      have HWS := Lib.hid (fun w2 (h1 : PB w L w2) => writeString_any w.heap.size w.heap.size (Lib.byteCells L) (tBytes (triS t)) w2 h1.1 (by rw [Lib.byteCells_length]; omega) h1.2.size)
      have HWB := Lib.hid (fun w2 (h1 : PB w (L ++ (tBytes (triS t)).data.toList) w2) => writeByte_any w.heap.size w.heap.size (Lib.byteCells (L ++ (tBytes (triS t)).data.toList)) 10 w2 h1.1 (by rw [Lib.byteCells_length, List.length_append]; have : (tBytes (triS t)).data.toList.length = (tBytes (triS t)).size := rfl; omega) h1.2.size)
      obtain ⟨W1, hW1⟩ : ∃ W1, W1 = wr.alloc (.cells #[.iface T1 Y1, .iface T2 Y2, .iface T3 Y3] 46) := ⟨_, rfl⟩
      have HP1 : Hid (PB w L W1) := Lib.hid (by rw [hW1]; exact HP.out.below ((Below.refl _ _).alloc (Nat.le_refl _) _))
      have hx1 : W1.heap[wr.heap.size]? = some (.cells #[.iface T1 Y1, .iface T2 Y2, .iface T3 Y3] 46 (0, 0)) := by rw [hW1]; exact blk_new wr _ _
      obtain ⟨d0, d1, d2⟩ := blk3f hx1
      have HW1 := Lib.hid hW1
      clear hv hg htt hL b1 b2 b3 b4 b5 b6 hW1 hx1 HTX HLN HLL HSN HIF
      clear e1 e2 e3
      go_wp2_with fail
      rw [← HW1.out]
      refine (HT.out _ HP1.out.2).mono ?_
      rintro e w2 ⟨rfl, hb2⟩
      have HP2 := Lib.hid (HP1.out.below hb2)
      clear hb2 d0 d1 d2 a0 a1 a2
      go_wp2_with fail
      refine (HWS.out _ HP2.out).mono ?_
      rintro e w3 ⟨rfl, hw3⟩
      have HP3 : Hid (PB w (L ++ (tBytes (triS t)).data.toList) w3) := Lib.hid (HP2.out.build hw3 (by rw [Lib.byteCells_append]; rfl))
      clear hw3
      go_wp2_with fail
      refine (HWB.out _ HP3.out).mono ?_
      rintro e w4 ⟨rfl, hw4⟩
      have HP4 : Hid (PB w (textB (linesS (ts.take (k + 1)))) w4) := Lib.hid (HP3.out.build hw4 (by rw [← HS.out, HB6.out, ← List.append_assoc]; rw [Lib.byteCells_append (L ++ textB (triS t)) [10]]; rfl))
      clear hw4
      go_wp2_with fail
      go_round
      case measure => simp only [intOf]; omega
      case rel => exact ⟨k + 1, by omega, by push_cast; rfl, HP4⟩
    · have t1 : decide ((k : Int) < (ts.length : Int)) = false := decide_eq_false (by omega)
      have HPF : Hid (PB w (textB (linesS ts)) wr) := Lib.hid (by have := HP.out; rw [List.take_of_length_le (by omega)] at this; exact this)
      have HST := Lib.hid (Tryz.Builder_String_any_k w.heap.size w.heap.size (textB (linesS ts)) wr HPF.out.1 HPF.out.2.size)
      clear HP HTX HLN HLL HSN HIF
      go_wp2_with fail
      refine HST.out.mono ?_
      rintro e w5 ⟨rfl, _, hb5, _⟩
      go_wp2_with fail
      go_ret
      exact ⟨rfl, HPF.out.2.trans hb5⟩
end Go.Proofs.YtbchkhjkajagfaaGreatDoor
