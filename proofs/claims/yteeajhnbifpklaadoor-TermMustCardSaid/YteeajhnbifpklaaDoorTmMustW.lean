/- The law TermMust: its walk. Every term. -/
import Derived.Test.YteeajhnbifpklaaDoorTmMust
import Derived.Test.YteeajhnbifpklaaDoorTvLaid
import Derived.Test.YteeajhnbifpklaaDoorTmOpen
import Derived.Deep.RegionHeld3
namespace Go.Proofs.YteeajhnbifpklaaDoor
open Go Go.RowKit
set_option linter.unusedVariables false
set_option linter.unusedSimpArgs false
theorem must_parts (k : Int) (x t l : ByteArray) : ∃ (c : Int) (X T L : ByteArray), plainR k x t l = .agg #[.int .i64 c, .string X, .string T, .string L] ∧ ∀ w, Calls Tryd.prog 15 #[tmV (termOf k x t l)] w fun e w' => e = .returned (.bool (c != 1)) ∧ Below w.heap.size w w' := by
  unfold plainR termOf
  rcases (by omega : k % 4 = 0 ∨ k % 4 = 1 ∨ k % 4 = 2 ∨ k % 4 = 3) with h | h | h | h
  all_goals rw [h]
  · exact ⟨0, x, ⟨#[]⟩, ⟨#[]⟩, rfl, fun w => panics_blank x w⟩
  · exact ⟨1, x, ⟨#[]⟩, ⟨#[]⟩, rfl, fun w => panics_iri x w⟩
  · exact ⟨2, x, t, l, rfl, fun w => panics_lit x t l w⟩
  · exact ⟨3, ⟨#[]⟩, ⟨#[]⟩, ⟨#[]⟩, rfl, fun w => panics_odd 0 w⟩
theorem kept_four {w w1 w2 : World} {a b c d : Addr} {x y z u : Value} (h : w1.cell? a = some x ∧ w1.cell? b = some y ∧ w1.cell? c = some z ∧ w1.cell? d = some u ∧ Below w.heap.size w w1) (hb : Below w1.heap.size w1 w2) :
    w2.cell? a = some x ∧ w2.cell? b = some y ∧ w2.cell? c = some z ∧ w2.cell? d = some u ∧ Below w.heap.size w w2 :=
  ⟨cell_below h.1 hb, cell_below h.2.1 hb, cell_below h.2.2.1 hb, cell_below h.2.2.2.1 hb, h.2.2.2.2.trans (hb.mono h.2.2.2.2.size)⟩
set_option maxRecDepth 100000 in
set_option maxHeartbeats 3200000 in
theorem must_walk (k : Int) (x t l : ByteArray) (w : World) (hv : ErrV w) :
    Calls Tryd.prog 4 #[.agg #[.int .i64 k, .string x, .string t, .string l]] w fun e w' => e = .returned (.bool true) ∧ Below w.heap.size w w' := by
  have AW := Lib.hid (fun w hv => awake3_any w hv)
  have HEV := Lib.hid (fun w' (hb : Below w.heap.size w w') => hv.below hb)
  clear hv
  have SH := Lib.hid (short_any k x t l)
  have PR := Lib.hid (plainr_any k x t l)
  have RR := Lib.hid (real_plain k x t l)
  have P0 := Lib.hid (panics_nil)
  obtain ⟨c, X, T, L, hp, hn⟩ := must_parts k x t l
  rw [hp] at PR RR
  have PN := Lib.hid hn
  clear hp hn
  generalize shortV x t l = b1 at *
  generalize tmV (termOf k x t l) = vx at *
  have HX0 : Hid ((w.alloc (.cells #[.int .i64 k, .string x, .string t, .string l] 23)).cell? ⟨w.heap.size, 0, none⟩ = some (.int .i64 k) ∧ (w.alloc (.cells #[.int .i64 k, .string x, .string t, .string l] 23)).cell? ⟨w.heap.size, 1, none⟩ = some (.string x) ∧ (w.alloc (.cells #[.int .i64 k, .string x, .string t, .string l] 23)).cell? ⟨w.heap.size, 2, none⟩ = some (.string t) ∧ (w.alloc (.cells #[.int .i64 k, .string x, .string t, .string l] 23)).cell? ⟨w.heap.size, 3, none⟩ = some (.string l) ∧ Below w.heap.size w (w.alloc (.cells #[.int .i64 k, .string x, .string t, .string l] 23))) := Lib.hid ⟨by simp [go_sem], by simp [go_sem], by simp [go_sem], by simp [go_sem], by go_grown⟩
  cases b1 with
  | false =>
    go_enter Tryd.func4, Tryd.ntmps4
    go_wp2_with fail
    refine (AW.out _ (HEV.out _ HX0.out.2.2.2.2)).mono ?_
    rintro e w1 ⟨rfl, hbn⟩
    have HX := Lib.hid (kept_four HX0.out hbn)
    clear hbn HX0
    obtain ⟨c0, c1, c2, c3, cz⟩ := HX.out
    go_wp2_with fail
    refine (SH.out _).mono ?_
    rintro e wn ⟨rfl, hbn⟩
    replace HX := Lib.hid (kept_four HX.out hbn)
    clear hbn cz c0 c1 c2 c3
    obtain ⟨c0, c1, c2, c3, cz⟩ := HX.out
    go_wp2_with fail
    refine (AW.out _ (HEV.out _ cz)).mono ?_
    rintro e wn ⟨rfl, hbn⟩
    go_wp2_with fail
    go_ret
    exact ⟨rfl, cz.trans (hbn.mono cz.size)⟩
  | true =>
    go_enter Tryd.func4, Tryd.ntmps4
    go_wp2_with fail
    refine (AW.out _ (HEV.out _ HX0.out.2.2.2.2)).mono ?_
    rintro e w1 ⟨rfl, hbn⟩
    have HX := Lib.hid (kept_four HX0.out hbn)
    clear hbn HX0
    obtain ⟨c0, c1, c2, c3, cz⟩ := HX.out
    go_wp2_with fail
    refine (SH.out _).mono ?_
    rintro e wn ⟨rfl, hbn⟩
    replace HX := Lib.hid (kept_four HX.out hbn)
    clear hbn cz c0 c1 c2 c3
    obtain ⟨c0, c1, c2, c3, cz⟩ := HX.out
    go_wp2_with fail
    refine (PR.out _).mono ?_
    rintro e w3 ⟨rfl, hb3⟩
    have z3 := cz.trans (hb3.mono cz.size)
    clear hb3 cz c0 c1 c2 c3 HX
    go_wp2_with fail
    obtain ⟨B, hB⟩ : ∃ B, B = w3.heap.size := ⟨_, rfl⟩
    obtain ⟨w4, h4⟩ : ∃ w4, w4 = w3.alloc (.cells #[.int .i64 c, .string X, .string T, .string L] 23) := ⟨_, rfl⟩
    have p0 : w4.drew.cell? ⟨B, 0, none⟩ = some (.int .i64 c) := by rw [h4, hB]; simp [go_sem]
    have p1 : w4.drew.cell? ⟨B, 1, none⟩ = some (.string X) := by rw [h4, hB]; simp [go_sem]
    have p2 : w4.drew.cell? ⟨B, 2, none⟩ = some (.string T) := by rw [h4, hB]; simp [go_sem]
    have p3 : w4.drew.cell? ⟨B, 3, none⟩ = some (.string L) := by rw [h4, hB]; simp [go_sem]
    have HZ : Hid (Below w.heap.size w w4) := Lib.hid (by rw [h4]; exact z3.alloc z3.size _)
    rw [← h4, ← hB]
    clear h4 hB z3
    refine wp_region_held_drew (S := fun w' => w'.cell? ⟨B, 0, none⟩ = some (.int .i64 c) ∧ w'.cell? ⟨B, 1, none⟩ = some (.string X) ∧ w'.cell? ⟨B, 2, none⟩ = some (.string T) ∧ w'.cell? ⟨B, 3, none⟩ = some (.string L) ∧ Below w.heap.size w w') (by kernel_rfl) ?hSm0 (fun hHeld => ?_)
    case hSm0 => exact ⟨p0, p1, p2, p3, HZ.out.drew⟩
    refine wpAnyH_take (i := 0) (oi := ⟨some 14, _, _, _, _, _⟩) (v := ?vm0) rfl (by kernel_rfl) (by kernel_rfl) (by kernel_rfl) (fun _ _ _ h => h) (Or.inl ⟨by kernel_rfl, ?ym0⟩) (by assumption) ?rm0
    case ym0 =>
      intro w hSw
      try dsimp only at hSw
      first | (go_simp; done) | (go_simp; with_reducible rfl)
    try simp only [Act.put, List.setIfInBounds_toArray, List.set_cons_zero, List.set_cons_succ]
    refine wpAnyH_take (i := 3) (oi := ⟨some 17, _, _, _, _, _⟩) (v := ?vm3) rfl (by kernel_rfl) (by kernel_rfl) (by kernel_rfl) (fun _ _ _ h => h) (Or.inl ⟨by kernel_rfl, ?ym3⟩) (by assumption) ?rm3
    case ym3 =>
      intro w hSw
      try dsimp only at hSw
      first | (go_simp; done) | (go_simp; with_reducible rfl)
    try simp only [Act.put, List.setIfInBounds_toArray, List.set_cons_zero, List.set_cons_succ]
    refine wpAnyH_take (i := 4) (oi := ⟨some 18, _, _, _, _, _⟩) (v := ?vm4) rfl (by kernel_rfl) (by kernel_rfl) (by kernel_rfl) (fun _ _ _ h => h) (Or.inl ⟨by kernel_rfl, ?ym4⟩) (by assumption) ?rm4
    case ym4 =>
      intro w hSw
      try dsimp only at hSw
      first | (go_simp; done) | (go_simp; with_reducible rfl)
    try simp only [Act.put, List.setIfInBounds_toArray, List.set_cons_zero, List.set_cons_succ]
    refine wpAnyH_take (i := 5) (oi := ⟨some 19, _, _, _, _, _⟩) (v := ?vm5) rfl (by kernel_rfl) (by kernel_rfl) (by kernel_rfl) (fun _ _ _ h => h) (Or.inl ⟨by kernel_rfl, ?ym5⟩) (by assumption) ?rm5
    case ym5 =>
      intro w hSw
      try dsimp only at hSw
      first | (go_simp; done) | (go_simp; with_reducible rfl)
    try simp only [Act.put, List.setIfInBounds_toArray, List.set_cons_zero, List.set_cons_succ]
    refine wpAnyH_ready (rs := [1]) (by kernel_rfl) (by simp) ?_
    refine AllReadyH.cons (i := 1) (o := ⟨some 15, _, _, _, _, _⟩) rfl (fun K hK => ?_) AllReadyH.nil
    go_simp
    go_at_call 12
    refine (RR.out _).mono ?_
    rintro e wp ⟨rfl, hb⟩
    go_wp2_with fail
    refine hK.out _ _ ?_ (fun hHeld => ?_)
    · exact kept_four (by assumption) hb
    clear hK K
    try simp only [Act.put, List.setIfInBounds_toArray, List.set_cons_zero, List.set_cons_succ]
    refine wpAnyH_ready (rs := [2]) (by kernel_rfl) (by simp) ?_
    refine AllReadyH.cons (i := 2) (o := ⟨some 16, _, _, _, _, _⟩) rfl (fun K hK => ?_) AllReadyH.nil
    go_simp
    go_at_call 15
    refine (PN.out _).mono ?_
    rintro e wp ⟨rfl, hb⟩
    go_wp2_with fail
    refine hK.out _ _ ?_ (fun hHeld => ?_)
    · exact kept_four (by assumption) hb
    clear hK K
    try simp only [Act.put, List.setIfInBounds_toArray, List.set_cons_zero, List.set_cons_succ]
    refine wpAnyH_take (i := 6) (oi := ⟨some 20, _, _, _, _, _⟩) (v := ?vm6) rfl (by kernel_rfl) (by kernel_rfl) (by kernel_rfl) (fun _ _ _ h => h) (Or.inl ⟨by kernel_rfl, ?ym6⟩) (by assumption) ?rm6
    case ym6 =>
      intro w hSw
      try dsimp only at hSw
      first | (go_simp; done) | (go_simp; with_reducible rfl)
    try simp only [Act.put, List.setIfInBounds_toArray, List.set_cons_zero, List.set_cons_succ]
    refine wpAnyH_take (i := 7) (oi := ⟨some 21, _, _, _, _, _⟩) (v := ?vm7) rfl (by kernel_rfl) (by kernel_rfl) (by kernel_rfl) (fun _ _ _ h => h) (Or.inl ⟨by kernel_rfl, ?ym7⟩) (by assumption) ?rm7
    case ym7 =>
      intro w hSw
      try dsimp only at hSw
      first | (go_simp; done) | (go_simp; with_reducible rfl)
    try simp only [Act.put, List.setIfInBounds_toArray, List.set_cons_zero, List.set_cons_succ]
    refine wpAnyH_ready (rs := [8]) (by kernel_rfl) (by simp) ?_
    refine AllReadyH.cons (i := 8) (o := ⟨some 22, _, _, _, _, _⟩) rfl (fun K hK => ?_) AllReadyH.nil
    go_simp
    go_at_call 15
    refine (P0.out _).mono ?_
    rintro e wp ⟨rfl, hb⟩
    go_wp2_with fail
    refine hK.out _ _ ?_ (fun hHeld => ?_)
    · exact kept_four (by assumption) hb
    clear hK K
    try simp only [Act.put, List.setIfInBounds_toArray, List.set_cons_zero, List.set_cons_succ]
    refine wpAnyH_take (i := 9) (oi := ⟨some 23, _, _, _, _, _⟩) (v := ?vm9) rfl (by kernel_rfl) (by kernel_rfl) (by kernel_rfl) (fun _ _ _ h => h) (Or.inl ⟨by kernel_rfl, ?ym9⟩) (by assumption) ?rm9
    case ym9 =>
      intro w hSw
      try dsimp only at hSw
      first | (go_simp; done) | (go_simp; with_reducible rfl)
    try simp only [Act.put, List.setIfInBounds_toArray, List.set_cons_zero, List.set_cons_succ]
    refine wpAnyH_take (i := 10) (oi := ⟨some 2, _, _, _, _, _⟩) (v := ?vm10) rfl (by kernel_rfl) (by kernel_rfl) (by kernel_rfl) (fun _ _ _ h => h) (Or.inl ⟨by kernel_rfl, ?ym10⟩) (by assumption) ?rm10
    case ym10 =>
      intro w hSw
      try dsimp only at hSw
      first | (go_simp; done) | (go_simp; with_reducible rfl)
    try simp only [Act.put, List.setIfInBounds_toArray, List.set_cons_zero, List.set_cons_succ]
    refine wpAnyH_done (by kernel_rfl) ?_ _
    have HZ2 := Lib.hid hHeld.2.2.2.2
    go_wp2_with fail
    go_ret
    exact ⟨rfl, HZ2.out⟩
end Go.Proofs.YteeajhnbifpklaaDoor
