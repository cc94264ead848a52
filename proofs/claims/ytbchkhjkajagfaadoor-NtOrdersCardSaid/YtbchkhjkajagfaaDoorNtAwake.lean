/- Contract over this seat's program: becklaw04.awake: the document's example is parsed as it should be. -/
import Derived.Test.YtbchkhjkajagfaaDoorNtGaps
import Derived.Test.YtbchkhjkajagfaaDoorNtRef
namespace Go.Proofs.YtbchkhjkajagfaaDoor
open Go Go.RowKit
set_option linter.unusedVariables false
set_option linter.unusedSimpArgs false
set_option maxRecDepth 100000
def awB : ByteArray := ⟨#[60, 117, 58, 97, 62, 32, 60, 117, 58, 98, 62, 32, 34, 99, 34, 32, 46]⟩
def awT : Tri := ⟨.iri ⟨#[117, 58, 97]⟩, .iri ⟨#[117, 58, 98]⟩, .lit ⟨#[99]⟩ ntString ⟨#[]⟩⟩
def awL : List Int := [60, 117, 58, 97, 62, 32, 60, 117, 58, 98, 62, 32, 34, 99, 34, 32, 46]
def strL : List Int := [104, 116, 116, 112, 58, 47, 47, 119, 119, 119, 46, 119, 51, 46, 111, 114, 103, 47, 50, 48, 48, 49, 47, 88, 77, 76, 83, 99, 104, 101, 109, 97, 35, 115, 116, 114, 105, 110, 103]
theorem aw_read : Read awB.data.toList awL [] := read_ascii _ _ (by decide +kernel) (by decide +kernel)
theorem aw_a : Read (⟨#[117, 58, 97]⟩ : ByteArray).data.toList [117, 58, 97] [] := read_ascii _ _ (by decide +kernel) (by decide +kernel)
theorem aw_b : Read (⟨#[117, 58, 98]⟩ : ByteArray).data.toList [117, 58, 98] [] := read_ascii _ _ (by decide +kernel) (by decide +kernel)
theorem aw_c : Read (⟨#[99]⟩ : ByteArray).data.toList [99] [] := read_ascii _ _ (by decide +kernel) (by decide +kernel)
theorem aw_s : Read ntString.data.toList strL [] := read_ascii _ _ (by decide +kernel) (by decide +kernel)
theorem read_nil : Read (⟨#[]⟩ : ByteArray).data.toList [] [] := ⟨rfl, fun n hn => (by cases hn), noSign_nil⟩
theorem aw_triS : triS awT = awL := by
  unfold triS awT
  show tmS (.iri ⟨#[117, 58, 97]⟩) ++ 32 :: (tmS (.iri ⟨#[117, 58, 98]⟩) ++ 32 :: (tmS (.lit ⟨#[99]⟩ ntString ⟨#[]⟩) ++ [32, 46])) = awL
  rw [tmS_iri, tmS_iri, tmS_lit, sg_eq aw_a, sg_eq aw_b, sg_eq aw_c, if_pos rfl, if_pos rfl]
  decide +kernel
theorem aw_small : SmallTri awT := ⟨⟨by decide +kernel, by decide +kernel, by decide +kernel⟩, ⟨by decide +kernel, by decide +kernel, by decide +kernel⟩, ⟨by decide +kernel, by decide +kernel, by decide +kernel⟩⟩
theorem aw_ga {G : Tm → Bool} (hG : GoodFn G) : G awT.s = true := by
  rw [(hG awT.s aw_small.1).2.2.2 _ _ _ _ aw_a read_nil]
  show iriV _ _ _ = true
  decide +kernel
theorem aw_gb {G : Tm → Bool} (hG : GoodFn G) : G awT.p = true := by
  rw [(hG awT.p aw_small.2.1).2.2.2 _ _ _ _ aw_b read_nil]
  show iriV _ _ _ = true
  decide +kernel
theorem aw_gc {G : Tm → Bool} (hG : GoodFn G) : G awT.o = true := by
  rw [(hG awT.o aw_small.2.2).2.2.2 _ _ _ _ aw_c aw_s]
  show litG _ _ _ _ _ _ = true
  unfold litG
  rw [Lib.toList_data, Lib.toList_data]
  decide +kernel
theorem aw_good {G : Tm → Bool} (hG : GoodFn G) : GoodTri G awT :=
  ⟨⟨(good_signs hG aw_small.1 (aw_ga hG)).2, aw_ga hG, rfl⟩, ⟨(good_signs hG aw_small.2.1 (aw_gb hG)).2, aw_gb hG, rfl⟩, (good_signs hG aw_small.2.2 (aw_gc hG)).2, aw_gc hG⟩
theorem aw_goodTri {G : Tm → Bool} (hG : GoodFn G) : goodTri G awT = true := by
  unfold goodTri subG prdG
  rw [aw_ga hG, aw_gb hG, aw_gc hG]
  rfl
theorem aw_parse {G : Tm → Bool} (hG : GoodFn G) : parseT G awL = ([awT], 0, 0) := by
  have hd : awL.drop 0 = triS awT ++ [] := by rw [aw_triS]; rfl
  obtain ⟨c, m, e, hc⟩ := triS_head (aw_good hG)
  have h0 : awL.drop 0 = c :: m := by rw [hd, e]; simp
  have hl : (triS awT).length = awL.length := by rw [aw_triS]
  have ho : overT awL awL.length = (awL.length, true) := by
    refine over_fin ?_
    unfold noteT
    rw [gap_end (b := []) (fun n hn => by cases hn) (List.drop_length), show awL.length + ([] : List Int).length = awL.length from rfl, pk_no (Nat.le_refl _), if_neg (by decide)]
  unfold parseT
  show parseGo G awL (16 + 1 + 1) 0 [] = _
  conv => lhs; unfold parseGo
  rw [if_neg (by decide), over_none hc h0]
  dsimp only
  rw [triple_back (aw_good hG) hd]
  dsimp only
  rw [hl, Nat.zero_add, ho]
  dsimp only
  rw [parse_end (Nat.le_refl _)]
  rfl
theorem plainl_any (s : ByteArray) (w : World) : Calls Tryd.prog 32 #[.string s] w fun e w' => e = .returned (.agg #[.string s, .string ⟨#[104, 116, 116, 112, 58, 47, 47, 119, 119, 119, 46, 119, 51, 46, 111, 114, 103, 47, 50, 48, 48, 49, 47, 88, 77, 76, 83, 99, 104, 101, 109, 97, 35, 115, 116, 114, 105, 110, 103]⟩, .string ⟨#[]⟩]) ∧ Below w.heap.size w w' := by
  go_enter Tryd.func32, Tryd.ntmps32
  go_wp2
  refine bodyPost_ret (v := .agg #[.string s, .string ⟨#[104, 116, 116, 112, 58, 47, 47, 119, 119, 119, 46, 119, 51, 46, 111, 114, 103, 47, 50, 48, 48, 49, 47, 88, 77, 76, 83, 99, 104, 101, 109, 97, 35, 115, 116, 114, 105, 110, 103]⟩, .string ⟨#[]⟩]) (by simp [results, Tryd.results32, go_sem]) rfl ?_
  exact ⟨rfl, by go_grown⟩
theorem kept3c {w1 w2 : World} {a b c : Addr} {x y z : Value} (h : w1.cell? a = some x ∧ w1.cell? b = some y ∧ w1.cell? c = some z) (hb : Below w1.heap.size w1 w2) : w2.cell? a = some x ∧ w2.cell? b = some y ∧ w2.cell? c = some z :=
  ⟨cell_below h.1 hb, cell_below h.2.1 hb, cell_below h.2.2 hb⟩
set_option maxHeartbeats 3200000 in
theorem nawake_any {G : Tm → Bool} (hG : GoodFn G) (w : World) (he : Esc w) (hm : MaxV w) : Calls Tryd.prog 8 #[] w fun e w' => e = .returned (.bool true) ∧ Below w.heap.size w w' := by
  have hp := parse_any hG awB awL [] w aw_read (by decide) (by decide) he hm
  unfold ParseEnd parseS at hp
  rw [if_pos rfl, aw_parse hG] at hp
  have HP := Lib.hid hp
  have HGD : Hid (∀ w1, Below w.heap.size w w1 → Calls Tryd.prog 30 #[triV awT] w1 fun e w' => e = .returned (.bool true) ∧ Below w1.heap.size w1 w') := Lib.hid (fun w1 hb => by
    have := tgood3_any hG awT aw_small (hm.below hb)
    rw [aw_goodTri hG] at this
    exact this)
  have HSM : Hid (∀ w1, Calls Tryd.prog 31 #[tmV awT.o, tmV awT.o] w1 fun e w' => e = .returned (.bool true) ∧ w1 = w') := Lib.hid (fun w1 => by
    have := same_any awT.o awT.o w1
    rw [show eqT awT.o awT.o = true from by unfold awT eqT; simp [sameS]] at this
    exact this)
  have HPL := Lib.hid (fun w => plainl_any ⟨#[99]⟩ w)
  have hB : awB = ⟨#[60, 117, 58, 97, 62, 32, 60, 117, 58, 98, 62, 32, 34, 99, 34, 32, 46]⟩ := rfl
  rw [hB] at HP
  clear hp hB he hm hG
  dsimp only at HP
  go_enter Tryd.func8, Tryd.ntmps8
  go_wp2_with fail
  refine HP.out.mono ?_
  rintro e w1 ⟨V, rfl, hr, hb1⟩
  obtain ⟨g, cap, rfl, hg, c0, c1, c2⟩ := tri_at hr 0 (by decide)
  have HB1 := Lib.hid hb1
  replace c0 : w1.cell? ⟨g, 0, none⟩ = some (.iface 96 (.agg #[.string ⟨#[117, 58, 97]⟩])) := c0
  replace c1 : w1.cell? ⟨g, 1, none⟩ = some (.iface 96 (.agg #[.string ⟨#[117, 58, 98]⟩])) := c1
  replace c2 : w1.cell? ⟨g, 2, none⟩ = some (.iface 75 (.agg #[.string ⟨#[99]⟩, .string ⟨#[104, 116, 116, 112, 58, 47, 47, 119, 119, 119, 46, 119, 51, 46, 111, 114, 103, 47, 50, 48, 48, 49, 47, 88, 77, 76, 83, 99, 104, 101, 109, 97, 35, 115, 116, 114, 105, 110, 103]⟩, .string ⟨#[]⟩])) := c2
  replace HGD : Hid (∀ w1, Below w.heap.size w w1 → Calls Tryd.prog 30 #[.agg #[.iface 96 (.agg #[.string ⟨#[117, 58, 97]⟩]), .iface 96 (.agg #[.string ⟨#[117, 58, 98]⟩]), .iface 75 (.agg #[.string ⟨#[99]⟩, .string ⟨#[104, 116, 116, 112, 58, 47, 47, 119, 119, 119, 46, 119, 51, 46, 111, 114, 103, 47, 50, 48, 48, 49, 47, 88, 77, 76, 83, 99, 104, 101, 109, 97, 35, 115, 116, 114, 105, 110, 103]⟩, .string ⟨#[]⟩])]] w1 fun e w' => e = .returned (.bool true) ∧ Below w1.heap.size w1 w') := HGD
  replace HSM : Hid (∀ w1, Calls Tryd.prog 31 #[.iface 75 (.agg #[.string ⟨#[99]⟩, .string ⟨#[104, 116, 116, 112, 58, 47, 47, 119, 119, 119, 46, 119, 51, 46, 111, 114, 103, 47, 50, 48, 48, 49, 47, 88, 77, 76, 83, 99, 104, 101, 109, 97, 35, 115, 116, 114, 105, 110, 103]⟩, .string ⟨#[]⟩]), .iface 75 (.agg #[.string ⟨#[99]⟩, .string ⟨#[104, 116, 116, 112, 58, 47, 47, 119, 119, 119, 46, 119, 51, 46, 111, 114, 103, 47, 50, 48, 48, 49, 47, 88, 77, 76, 83, 99, 104, 101, 109, 97, 35, 115, 116, 114, 105, 110, 103]⟩, .string ⟨#[]⟩])] w1 fun e w' => e = .returned (.bool true) ∧ w1 = w') := HSM
  clear hr hb1 hg
  rw [show ([awT] : List Tri).length = 1 from rfl]
  go_wp2_with fail
  refine wp_region_held_drew (S := (fun w' => w'.cell? ⟨g, 0, none⟩ = some (.iface 96 (.agg #[.string ⟨#[117, 58, 97]⟩])) ∧ w'.cell? ⟨g, 1, none⟩ = some (.iface 96 (.agg #[.string ⟨#[117, 58, 98]⟩])) ∧ w'.cell? ⟨g, 2, none⟩ = some (.iface 75 (.agg #[.string ⟨#[99]⟩, .string ⟨#[104, 116, 116, 112, 58, 47, 47, 119, 119, 119, 46, 119, 51, 46, 111, 114, 103, 47, 50, 48, 48, 49, 47, 88, 77, 76, 83, 99, 104, 101, 109, 97, 35, 115, 116, 114, 105, 110, 103]⟩, .string ⟨#[]⟩])))) (by kernel_rfl) ?hSawk0 (fun hHeld => ?_)
  case hSawk0 => exact ⟨c0, c1, c2⟩
  refine wpAnyH_take (i := 0) (oi := ⟨some 9, _, _, _, _, _⟩) (v := ?vawk0) rfl (by kernel_rfl) (by kernel_rfl) (by kernel_rfl) (fun _ _ _ h => h) (Or.inl ⟨by kernel_rfl, ?yawk0⟩) (by assumption) ?rawk0
  case yawk0 =>
    intro w hSw
    try dsimp only at hSw
    obtain ⟨c0, c1, c2⟩ := hSw
    first | (go_simp; done) | (go_simp; with_reducible rfl)
  try simp only [Act.put, List.setIfInBounds_toArray, List.set_cons_zero, List.set_cons_succ]
  refine wpAnyH_take (i := 1) (oi := ⟨some 10, _, _, _, _, _⟩) (v := ?vawk1) rfl (by kernel_rfl) (by kernel_rfl) (by kernel_rfl) (fun _ _ _ h => h) (Or.inl ⟨by kernel_rfl, ?yawk1⟩) (by assumption) ?rawk1
  case yawk1 =>
    intro w hSw
    try dsimp only at hSw
    obtain ⟨c0, c1, c2⟩ := hSw
    first | (go_simp; done) | (go_simp; with_reducible rfl)
  try simp only [Act.put, List.setIfInBounds_toArray, List.set_cons_zero, List.set_cons_succ]
  refine wpAnyH_take (i := 2) (oi := ⟨some 11, _, _, _, _, _⟩) (v := ?vawk2) rfl (by kernel_rfl) (by kernel_rfl) (by kernel_rfl) (fun _ _ _ h => h) (Or.inl ⟨by kernel_rfl, ?yawk2⟩) (by assumption) ?rawk2
  case yawk2 =>
    intro w hSw
    try dsimp only at hSw
    obtain ⟨c0, c1, c2⟩ := hSw
    first | (go_simp; done) | (go_simp; with_reducible rfl)
  try simp only [Act.put, List.setIfInBounds_toArray, List.set_cons_zero, List.set_cons_succ]
  refine wpAnyH_take (i := 3) (oi := ⟨some 12, _, _, _, _, _⟩) (v := ?vawk3) rfl (by kernel_rfl) (by kernel_rfl) (by kernel_rfl) (fun _ _ _ h => h) (Or.inl ⟨by kernel_rfl, ?yawk3⟩) (by assumption) ?rawk3
  case yawk3 =>
    intro w hSw
    try dsimp only at hSw
    obtain ⟨c0, c1, c2⟩ := hSw
    first | (go_simp; done) | (go_simp; with_reducible rfl)
  try simp only [Act.put, List.setIfInBounds_toArray, List.set_cons_zero, List.set_cons_succ]
  refine wpAnyH_take (i := 4) (oi := ⟨some 13, _, _, _, _, _⟩) (v := ?vawk4) rfl (by kernel_rfl) (by kernel_rfl) (by kernel_rfl) (fun _ _ _ h => h) (Or.inl ⟨by kernel_rfl, ?yawk4⟩) (by assumption) ?rawk4
  case yawk4 =>
    intro w hSw
    try dsimp only at hSw
    obtain ⟨c0, c1, c2⟩ := hSw
    first | (go_simp; done) | (go_simp; with_reducible rfl)
  try simp only [Act.put, List.setIfInBounds_toArray, List.set_cons_zero, List.set_cons_succ]
  refine wpAnyH_take (i := 5) (oi := ⟨some 14, _, _, _, _, _⟩) (v := ?vawk5) rfl (by kernel_rfl) (by kernel_rfl) (by kernel_rfl) (fun _ _ _ h => h) (Or.inl ⟨by kernel_rfl, ?yawk5⟩) (by assumption) ?rawk5
  case yawk5 =>
    intro w hSw
    try dsimp only at hSw
    obtain ⟨c0, c1, c2⟩ := hSw
    first | (go_simp; done) | (go_simp; with_reducible rfl)
  try simp only [Act.put, List.setIfInBounds_toArray, List.set_cons_zero, List.set_cons_succ]
  refine wpAnyH_take (i := 6) (oi := ⟨some 15, _, _, _, _, _⟩) (v := ?vawk6) rfl (by kernel_rfl) (by kernel_rfl) (by kernel_rfl) (fun _ _ _ h => h) (Or.inl ⟨by kernel_rfl, ?yawk6⟩) (by assumption) ?rawk6
  case yawk6 =>
    intro w hSw
    try dsimp only at hSw
    obtain ⟨c0, c1, c2⟩ := hSw
    first | (go_simp; done) | (go_simp; with_reducible rfl)
  try simp only [Act.put, List.setIfInBounds_toArray, List.set_cons_zero, List.set_cons_succ]
  refine wpAnyH_take (i := 7) (oi := ⟨some 16, _, _, _, _, _⟩) (v := ?vawk7) rfl (by kernel_rfl) (by kernel_rfl) (by kernel_rfl) (fun _ _ _ h => h) (Or.inl ⟨by kernel_rfl, ?yawk7⟩) (by assumption) ?rawk7
  case yawk7 =>
    intro w hSw
    try dsimp only at hSw
    obtain ⟨c0, c1, c2⟩ := hSw
    first | (go_simp; done) | (go_simp; with_reducible rfl)
  try simp only [Act.put, List.setIfInBounds_toArray, List.set_cons_zero, List.set_cons_succ]
  refine wpAnyH_take (i := 8) (oi := ⟨some 17, _, _, _, _, _⟩) (v := ?vawk8) rfl (by kernel_rfl) (by kernel_rfl) (by kernel_rfl) (fun _ _ _ h => h) (Or.inl ⟨by kernel_rfl, ?yawk8⟩) (by assumption) ?rawk8
  case yawk8 =>
    intro w hSw
    try dsimp only at hSw
    obtain ⟨c0, c1, c2⟩ := hSw
    first | (go_simp; done) | (go_simp; with_reducible rfl)
  try simp only [Act.put, List.setIfInBounds_toArray, List.set_cons_zero, List.set_cons_succ]
  refine wpAnyH_take (i := 9) (oi := ⟨some 18, _, _, _, _, _⟩) (v := ?vawk9) rfl (by kernel_rfl) (by kernel_rfl) (by kernel_rfl) (fun _ _ _ h => h) (Or.inl ⟨by kernel_rfl, ?yawk9⟩) (by assumption) ?rawk9
  case yawk9 =>
    intro w hSw
    try dsimp only at hSw
    obtain ⟨c0, c1, c2⟩ := hSw
    first | (go_simp; done) | (go_simp; with_reducible rfl)
  try simp only [Act.put, List.setIfInBounds_toArray, List.set_cons_zero, List.set_cons_succ]
  refine wpAnyH_take (i := 10) (oi := ⟨some 19, _, _, _, _, _⟩) (v := ?vawk10) rfl (by kernel_rfl) (by kernel_rfl) (by kernel_rfl) (fun _ _ _ h => h) (Or.inl ⟨by kernel_rfl, ?yawk10⟩) (by assumption) ?rawk10
  case yawk10 =>
    intro w hSw
    try dsimp only at hSw
    obtain ⟨c0, c1, c2⟩ := hSw
    first | (go_simp; done) | (go_simp; with_reducible rfl)
  try simp only [Act.put, List.setIfInBounds_toArray, List.set_cons_zero, List.set_cons_succ]
  refine wpAnyH_ready (rs := [11]) (by kernel_rfl) (by simp) ?_
  refine AllReadyH.cons (i := 11) (o := ⟨some 20, _, _, _, _, _⟩) rfl (fun K hK => ?_) AllReadyH.nil
  go_simp
  refine (HGD.out _ HB1.out.drew).mono ?_
  rintro e w2 ⟨rfl, hb2⟩
  have HB2 := Lib.hid (HB1.out.drew.trans (hb2.mono (show w.heap.size ≤ w1.drew.heap.size from HB1.out.size)))
  go_wp2_with fail
  refine hK.out _ _ ?_ (fun hHeld => ?_)
  · exact kept3c (by assumption) hb2
  clear hK K
  try simp only [Act.put, List.setIfInBounds_toArray, List.set_cons_zero, List.set_cons_succ]
  refine wpAnyH_take (i := 12) (oi := ⟨some 21, _, _, _, _, _⟩) (v := ?vawk12) rfl (by kernel_rfl) (by kernel_rfl) (by kernel_rfl) (fun _ _ _ h => h) (Or.inl ⟨by kernel_rfl, ?yawk12⟩) (by assumption) ?rawk12
  case yawk12 =>
    intro w hSw
    try dsimp only at hSw
    obtain ⟨c0, c1, c2⟩ := hSw
    first | (go_simp; done) | (go_simp; with_reducible rfl)
  try simp only [Act.put, List.setIfInBounds_toArray, List.set_cons_zero, List.set_cons_succ]
  refine wpAnyH_take (i := 13) (oi := ⟨some 22, _, _, _, _, _⟩) (v := ?vawk13) rfl (by kernel_rfl) (by kernel_rfl) (by kernel_rfl) (fun _ _ _ h => h) (Or.inl ⟨by kernel_rfl, ?yawk13⟩) (by assumption) ?rawk13
  case yawk13 =>
    intro w hSw
    try dsimp only at hSw
    obtain ⟨c0, c1, c2⟩ := hSw
    first | (go_simp; done) | (go_simp; with_reducible rfl)
  try simp only [Act.put, List.setIfInBounds_toArray, List.set_cons_zero, List.set_cons_succ]
  refine wpAnyH_take (i := 14) (oi := ⟨some 23, _, _, _, _, _⟩) (v := ?vawk14) rfl (by kernel_rfl) (by kernel_rfl) (by kernel_rfl) (fun _ _ _ h => h) (Or.inl ⟨by kernel_rfl, ?yawk14⟩) (by assumption) ?rawk14
  case yawk14 =>
    intro w hSw
    try dsimp only at hSw
    obtain ⟨c0, c1, c2⟩ := hSw
    first | (go_simp; done) | (go_simp; with_reducible rfl)
  try simp only [Act.put, List.setIfInBounds_toArray, List.set_cons_zero, List.set_cons_succ]
  refine wpAnyH_take (i := 15) (oi := ⟨some 24, _, _, _, _, _⟩) (v := ?vawk15) rfl (by kernel_rfl) (by kernel_rfl) (by kernel_rfl) (fun _ _ _ h => h) (Or.inl ⟨by kernel_rfl, ?yawk15⟩) (by assumption) ?rawk15
  case yawk15 =>
    intro w hSw
    try dsimp only at hSw
    obtain ⟨c0, c1, c2⟩ := hSw
    first | (go_simp; done) | (go_simp; with_reducible rfl)
  try simp only [Act.put, List.setIfInBounds_toArray, List.set_cons_zero, List.set_cons_succ]
  refine wpAnyH_take (i := 16) (oi := ⟨some 25, _, _, _, _, _⟩) (v := ?vawk16) rfl (by kernel_rfl) (by kernel_rfl) (by kernel_rfl) (fun _ _ _ h => h) (Or.inl ⟨by kernel_rfl, ?yawk16⟩) (by assumption) ?rawk16
  case yawk16 =>
    intro w hSw
    try dsimp only at hSw
    obtain ⟨c0, c1, c2⟩ := hSw
    first | (go_simp; done) | (go_simp; with_reducible rfl)
  try simp only [Act.put, List.setIfInBounds_toArray, List.set_cons_zero, List.set_cons_succ]
  refine wpAnyH_take (i := 17) (oi := ⟨some 26, _, _, _, _, _⟩) (v := ?vawk17) rfl (by kernel_rfl) (by kernel_rfl) (by kernel_rfl) (fun _ _ _ h => h) (Or.inl ⟨by kernel_rfl, ?yawk17⟩) (by assumption) ?rawk17
  case yawk17 =>
    intro w hSw
    try dsimp only at hSw
    obtain ⟨c0, c1, c2⟩ := hSw
    first | (go_simp; done) | (go_simp; with_reducible rfl)
  try simp only [Act.put, List.setIfInBounds_toArray, List.set_cons_zero, List.set_cons_succ]
  refine wpAnyH_ready (rs := [18]) (by kernel_rfl) (by simp) ?_
  refine AllReadyH.cons (i := 18) (o := ⟨some 27, _, _, _, _, _⟩) rfl (fun K hK => ?_) AllReadyH.nil
  go_simp
  refine (HPL.out _).mono ?_
  rintro e w3 ⟨rfl, hb3⟩
  have HB3 := Lib.hid (HB2.out.trans (hb3.mono HB2.out.size))
  go_wp2_with fail
  refine hK.out _ _ ?_ (fun hHeld => ?_)
  · exact kept3c (by assumption) hb3
  clear hK K
  try simp only [Act.put, List.setIfInBounds_toArray, List.set_cons_zero, List.set_cons_succ]
  refine wpAnyH_take (i := 19) (oi := ⟨some 28, _, _, _, _, _⟩) (v := ?vawk19) rfl (by kernel_rfl) (by kernel_rfl) (by kernel_rfl) (fun _ _ _ h => h) (Or.inl ⟨by kernel_rfl, ?yawk19⟩) (by assumption) ?rawk19
  case yawk19 =>
    intro w hSw
    try dsimp only at hSw
    obtain ⟨c0, c1, c2⟩ := hSw
    first | (go_simp; done) | (go_simp; with_reducible rfl)
  try simp only [Act.put, List.setIfInBounds_toArray, List.set_cons_zero, List.set_cons_succ]
  refine wpAnyH_ready (rs := [20]) (by kernel_rfl) (by simp) ?_
  refine AllReadyH.cons (i := 20) (o := ⟨some 29, _, _, _, _, _⟩) rfl (fun K hK => ?_) AllReadyH.nil
  go_simp
  refine (HSM.out _).mono ?_
  rintro e w4 ⟨rfl, rfl⟩
  go_wp2_with fail
  refine hK.out _ _ ?_ (fun hHeld => ?_)
  · exact (by assumption)
  clear hK K
  try simp only [Act.put, List.setIfInBounds_toArray, List.set_cons_zero, List.set_cons_succ]
  refine wpAnyH_take (i := 21) (oi := ⟨some 30, _, _, _, _, _⟩) (v := ?vawk21) rfl (by kernel_rfl) (by kernel_rfl) (by kernel_rfl) (fun _ _ _ h => h) (Or.inl ⟨by kernel_rfl, ?yawk21⟩) (by assumption) ?rawk21
  case yawk21 =>
    intro w hSw
    try dsimp only at hSw
    obtain ⟨c0, c1, c2⟩ := hSw
    first | (go_simp; done) | (go_simp; with_reducible rfl)
  try simp only [Act.put, List.setIfInBounds_toArray, List.set_cons_zero, List.set_cons_succ]
  refine wpAnyH_take (i := 22) (oi := ⟨some 0, _, _, _, _, _⟩) (v := ?vawk22) rfl (by kernel_rfl) (by kernel_rfl) (by kernel_rfl) (fun _ _ _ h => h) (Or.inl ⟨by kernel_rfl, ?yawk22⟩) (by assumption) ?rawk22
  case yawk22 =>
    intro w hSw
    try dsimp only at hSw
    obtain ⟨c0, c1, c2⟩ := hSw
    first | (go_simp; done) | (go_simp; with_reducible rfl)
  try simp only [Act.put, List.setIfInBounds_toArray, List.set_cons_zero, List.set_cons_succ]
  refine wpAnyH_done (by kernel_rfl) ?_ _
  go_wp2_with fail
  go_ret
  exact ⟨rfl, HB3.out⟩
end Go.Proofs.YtbchkhjkajagfaaDoor
