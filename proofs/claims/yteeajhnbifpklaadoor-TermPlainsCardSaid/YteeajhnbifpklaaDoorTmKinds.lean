/- The law TermKinds: its walk. Every two strings. -/
import Derived.Test.YteeajhnbifpklaaDoorTmAwake
import Derived.Test.YteeajhnbifpklaaDoorTvLaid
import Derived.Deep.RegionHeld3
namespace Go.Proofs.YteeajhnbifpklaaDoor
open Go Go.RowKit
set_option linter.unusedVariables false
set_option linter.unusedSimpArgs false
theorem less_self : ∀ l : List UInt8, Op.bytesLess l l = false
  | [] => by rfl
  | a :: l => by simp [Op.bytesLess, less_self l]
theorem cmpS_self (x : ByteArray) : cmpS x x = 0 := by unfold cmpS lessS sameS; rw [less_self]; simp
theorem or_mid (c : Int) : orV [0, c, 0, 0] = c := by
  unfold orV; rw [if_pos rfl]; unfold orV; split
  · rename_i h; rw [h]; rfl
  · rfl
theorem order_same_lit (s t x : ByteArray) : orderV (.lit s x ⟨#[]⟩) (.lit t x ⟨#[]⟩) = cmpS s t := by
  show orV [cmpI 2 2, cmpS s t, cmpS x x, cmpS ⟨#[]⟩ ⟨#[]⟩] = _
  rw [cmpS_self, cmpS_self]; exact or_mid _
theorem order_same_blank (s t : ByteArray) : orderV (.blank s) (.blank t) = cmpS s t := by
  show orV [cmpI 0 0, cmpS s t, cmpS ⟨#[]⟩ ⟨#[]⟩, cmpS ⟨#[]⟩ ⟨#[]⟩] = _
  rw [cmpS_self]; exact or_mid _
theorem order_same_iri (s t : ByteArray) : orderV (.iri s) (.iri t) = cmpS s t := by
  show orV [cmpI 1 1, cmpS s t, cmpS ⟨#[]⟩ ⟨#[]⟩, cmpS ⟨#[]⟩ ⟨#[]⟩] = _
  rw [cmpS_self]; exact or_mid _
theorem plain_any (s : ByteArray) (w : World) : Calls Tryd.prog 18 #[.string s] w fun e w' => e = .returned (.agg #[.string s, .string ⟨#[104, 116, 116, 112, 58, 47, 47, 119, 119, 119, 46, 119, 51, 46, 111, 114, 103, 47, 50, 48, 48, 49, 47, 88, 77, 76, 83, 99, 104, 101, 109, 97, 35, 115, 116, 114, 105, 110, 103]⟩, .string ⟨#[]⟩]) ∧ Below w.heap.size w w' := by
  go_enter Tryd.func18, Tryd.ntmps18
  go_wp2
  refine bodyPost_ret (v := .agg #[.string s, .string ⟨#[104, 116, 116, 112, 58, 47, 47, 119, 119, 119, 46, 119, 51, 46, 111, 114, 103, 47, 50, 48, 48, 49, 47, 88, 77, 76, 83, 99, 104, 101, 109, 97, 35, 115, 116, 114, 105, 110, 103]⟩, .string ⟨#[]⟩]) (by simp [results, Tryd.results18, go_sem]) rfl ?_
  exact ⟨rfl, by go_grown⟩
theorem kept_five {w w1 w2 : World} {a b c d f : Addr} {x y z u v : Value} (h : w1.cell? a = some x ∧ w1.cell? b = some y ∧ w1.cell? c = some z ∧ w1.cell? d = some u ∧ w1.cell? f = some v ∧ Below w.heap.size w w1) (hb : Below w1.heap.size w1 w2) :
    w2.cell? a = some x ∧ w2.cell? b = some y ∧ w2.cell? c = some z ∧ w2.cell? d = some u ∧ w2.cell? f = some v ∧ Below w.heap.size w w2 :=
  ⟨cell_below h.1 hb, cell_below h.2.1 hb, cell_below h.2.2.1 hb, cell_below h.2.2.2.1 hb, cell_below h.2.2.2.2.1 hb, h.2.2.2.2.2.trans (hb.mono h.2.2.2.2.2.size)⟩
set_option maxRecDepth 100000 in
set_option maxHeartbeats 6400000 in
theorem kinds_walk (s t : ByteArray) (w : World) (hv : ErrV w) (hs : s.size ≤ 9223372036854775807) (ht : t.size ≤ 9223372036854775807) :
    Calls Tryd.prog 9 #[.string s, .string t] w fun e w' => e = .returned (.bool true) ∧ Below w.heap.size w w' := by
  have AW := Lib.hid (fun w hv => awake3_any w hv)
  have HV := Lib.hid hv
  clear hv
  by_cases hbig : 300 < s.size ∨ 300 < t.size
  · rcases (by omega : (300 : Int) < s.size ∨ ((s.size : Int) ≤ 300 ∧ (300 : Int) < t.size)) with h2 | ⟨h2, h3⟩
    all_goals
      clear hbig
      go_enter Tryd.func9, Tryd.ntmps9
      go_wp2_with fail
      refine (AW.out _ HV.out).mono ?_
      rintro e w1 ⟨rfl, hb1⟩
      go_wp2_with fail
      refine (AW.out _ (HV.out.below hb1)).mono ?_
      rintro e w2 ⟨rfl, hb2⟩
      go_wp2_with fail
      go_ret
      exact ⟨rfl, hb1.trans (hb2.mono hb1.size)⟩
  have s3 : (s.size : Int) ≤ 300 := by omega
  have t3 : (t.size : Int) ≤ 300 := by omega
  clear hbig hs ht
  have PL := Lib.hid (plain_any t)
  have PS := Lib.hid (plain_any s)
  have O1 : Hid (∀ w, Calls Tryd.prog 29 #[.iface 62 (.agg #[.string s]), .iface 53 (.agg #[.string t])] w fun e w' => e = .returned (.int .i64 (-1)) ∧ Below w.heap.size w w') := Lib.hid (fun w => by
    have := order_any (.blank s) (.iri t) w
    rw [show orderV (.blank s) (.iri t) = (-1) from rfl] at this
    exact this)
  have O2 : Hid (∀ w, Calls Tryd.prog 29 #[.iface 53 (.agg #[.string t]), .iface 35 (.agg #[.string s, .string ⟨#[104, 116, 116, 112, 58, 47, 47, 119, 119, 119, 46, 119, 51, 46, 111, 114, 103, 47, 50, 48, 48, 49, 47, 88, 77, 76, 83, 99, 104, 101, 109, 97, 35, 115, 116, 114, 105, 110, 103]⟩, .string ⟨#[]⟩])] w fun e w' => e = .returned (.int .i64 (-1)) ∧ Below w.heap.size w w') := Lib.hid (fun w => by
    have := order_any (.iri t) (.lit s ⟨#[104, 116, 116, 112, 58, 47, 47, 119, 119, 119, 46, 119, 51, 46, 111, 114, 103, 47, 50, 48, 48, 49, 47, 88, 77, 76, 83, 99, 104, 101, 109, 97, 35, 115, 116, 114, 105, 110, 103]⟩ ⟨#[]⟩) w
    rw [show orderV (.iri t) (.lit s ⟨#[104, 116, 116, 112, 58, 47, 47, 119, 119, 119, 46, 119, 51, 46, 111, 114, 103, 47, 50, 48, 48, 49, 47, 88, 77, 76, 83, 99, 104, 101, 109, 97, 35, 115, 116, 114, 105, 110, 103]⟩ ⟨#[]⟩) = (-1) from rfl] at this
    exact this)
  have O3 : Hid (∀ w, Calls Tryd.prog 29 #[.iface 62 (.agg #[.string s]), .iface 35 (.agg #[.string s, .string ⟨#[104, 116, 116, 112, 58, 47, 47, 119, 119, 119, 46, 119, 51, 46, 111, 114, 103, 47, 50, 48, 48, 49, 47, 88, 77, 76, 83, 99, 104, 101, 109, 97, 35, 115, 116, 114, 105, 110, 103]⟩, .string ⟨#[]⟩])] w fun e w' => e = .returned (.int .i64 (-1)) ∧ Below w.heap.size w w') := Lib.hid (fun w => by
    have := order_any (.blank s) (.lit s ⟨#[104, 116, 116, 112, 58, 47, 47, 119, 119, 119, 46, 119, 51, 46, 111, 114, 103, 47, 50, 48, 48, 49, 47, 88, 77, 76, 83, 99, 104, 101, 109, 97, 35, 115, 116, 114, 105, 110, 103]⟩ ⟨#[]⟩) w
    rw [show orderV (.blank s) (.lit s ⟨#[104, 116, 116, 112, 58, 47, 47, 119, 119, 119, 46, 119, 51, 46, 111, 114, 103, 47, 50, 48, 48, 49, 47, 88, 77, 76, 83, 99, 104, 101, 109, 97, 35, 115, 116, 114, 105, 110, 103]⟩ ⟨#[]⟩) = (-1) from rfl] at this
    exact this)
  have O4 : Hid (∀ w, Calls Tryd.prog 29 #[.iface 35 (.agg #[.string s, .string ⟨#[104, 116, 116, 112, 58, 47, 47, 119, 119, 119, 46, 119, 51, 46, 111, 114, 103, 47, 50, 48, 48, 49, 47, 88, 77, 76, 83, 99, 104, 101, 109, 97, 35, 115, 116, 114, 105, 110, 103]⟩, .string ⟨#[]⟩]), .iface 53 (.agg #[.string t])] w fun e w' => e = .returned (.int .i64 1) ∧ Below w.heap.size w w') := Lib.hid (fun w => by
    have := order_any (.lit s ⟨#[104, 116, 116, 112, 58, 47, 47, 119, 119, 119, 46, 119, 51, 46, 111, 114, 103, 47, 50, 48, 48, 49, 47, 88, 77, 76, 83, 99, 104, 101, 109, 97, 35, 115, 116, 114, 105, 110, 103]⟩ ⟨#[]⟩) (.iri t) w
    rw [show orderV (.lit s ⟨#[104, 116, 116, 112, 58, 47, 47, 119, 119, 119, 46, 119, 51, 46, 111, 114, 103, 47, 50, 48, 48, 49, 47, 88, 77, 76, 83, 99, 104, 101, 109, 97, 35, 115, 116, 114, 105, 110, 103]⟩ ⟨#[]⟩) (.iri t) = 1 from rfl] at this
    exact this)
  have O5 : Hid (∀ w, Calls Tryd.prog 29 #[.iface 35 (.agg #[.string s, .string ⟨#[104, 116, 116, 112, 58, 47, 47, 119, 119, 119, 46, 119, 51, 46, 111, 114, 103, 47, 50, 48, 48, 49, 47, 88, 77, 76, 83, 99, 104, 101, 109, 97, 35, 115, 116, 114, 105, 110, 103]⟩, .string ⟨#[]⟩]), .iface 35 (.agg #[.string t, .string ⟨#[104, 116, 116, 112, 58, 47, 47, 119, 119, 119, 46, 119, 51, 46, 111, 114, 103, 47, 50, 48, 48, 49, 47, 88, 77, 76, 83, 99, 104, 101, 109, 97, 35, 115, 116, 114, 105, 110, 103]⟩, .string ⟨#[]⟩])] w fun e w' => e = .returned (.int .i64 (cmpS s t)) ∧ Below w.heap.size w w') := Lib.hid (fun w => by
    have := order_any (.lit s ⟨#[104, 116, 116, 112, 58, 47, 47, 119, 119, 119, 46, 119, 51, 46, 111, 114, 103, 47, 50, 48, 48, 49, 47, 88, 77, 76, 83, 99, 104, 101, 109, 97, 35, 115, 116, 114, 105, 110, 103]⟩ ⟨#[]⟩) (.lit t ⟨#[104, 116, 116, 112, 58, 47, 47, 119, 119, 119, 46, 119, 51, 46, 111, 114, 103, 47, 50, 48, 48, 49, 47, 88, 77, 76, 83, 99, 104, 101, 109, 97, 35, 115, 116, 114, 105, 110, 103]⟩ ⟨#[]⟩) w
    rw [show orderV (.lit s ⟨#[104, 116, 116, 112, 58, 47, 47, 119, 119, 119, 46, 119, 51, 46, 111, 114, 103, 47, 50, 48, 48, 49, 47, 88, 77, 76, 83, 99, 104, 101, 109, 97, 35, 115, 116, 114, 105, 110, 103]⟩ ⟨#[]⟩) (.lit t ⟨#[104, 116, 116, 112, 58, 47, 47, 119, 119, 119, 46, 119, 51, 46, 111, 114, 103, 47, 50, 48, 48, 49, 47, 88, 77, 76, 83, 99, 104, 101, 109, 97, 35, 115, 116, 114, 105, 110, 103]⟩ ⟨#[]⟩) = (cmpS s t) from order_same_lit s t _] at this
    exact this)
  have O6 : Hid (∀ w, Calls Tryd.prog 29 #[.iface 62 (.agg #[.string s]), .iface 62 (.agg #[.string t])] w fun e w' => e = .returned (.int .i64 (cmpS s t)) ∧ Below w.heap.size w w') := Lib.hid (fun w => by
    have := order_any (.blank s) (.blank t) w
    rw [show orderV (.blank s) (.blank t) = (cmpS s t) from order_same_blank s t] at this
    exact this)
  have O7 : Hid (∀ w, Calls Tryd.prog 29 #[.iface 53 (.agg #[.string s]), .iface 53 (.agg #[.string t])] w fun e w' => e = .returned (.int .i64 (cmpS s t)) ∧ Below w.heap.size w w') := Lib.hid (fun w => by
    have := order_any (.iri s) (.iri t) w
    rw [show orderV (.iri s) (.iri t) = (cmpS s t) from order_same_iri s t] at this
    exact this)
  have gt := gtr_run s t
  cases h1 : Op.bytesLess s.toList t.toList with
  | true =>
    have hc : cmpS s t = -1 := by unfold cmpS lessS; rw [h1]; rfl
    rw [hc] at O5 O6 O7
    clear hc gt
    go_enter Tryd.func9, Tryd.ntmps9
    go_wp2_with fail
    refine (AW.out _ HV.out).mono ?_
    rintro e w1 ⟨rfl, hb1⟩
    go_wp2_with fail
    refine (PS.out _).mono ?_
    rintro e w2 ⟨rfl, hb2⟩
    go_wp2_with fail
    obtain ⟨B, hB⟩ : ∃ B, B = w2.heap.size := ⟨_, rfl⟩
    obtain ⟨w3, h3⟩ : ∃ w3, w3 = ((w2.alloc (.cells #[.string s] 62)).alloc (.cells #[.string t] 53)).alloc (.cells #[.string s, .string ⟨#[104, 116, 116, 112, 58, 47, 47, 119, 119, 119, 46, 119, 51, 46, 111, 114, 103, 47, 50, 48, 48, 49, 47, 88, 77, 76, 83, 99, 104, 101, 109, 97, 35, 115, 116, 114, 105, 110, 103]⟩, .string ⟨#[]⟩] 35) := ⟨_, rfl⟩
    have HZ : Hid (Below w.heap.size w w3) := Lib.hid (by rw [h3]; have h12 := hb1.trans (hb2.mono hb1.size); have hz := h12.size; exact ((h12.alloc hz _).alloc (by simp; omega) _).alloc (by simp; omega) _)
    have p0 : w3.drew.cell? ⟨B, 0, none⟩ = some (.string s) := by rw [h3, hB]; simp [go_sem]
    have p1 : w3.drew.cell? ⟨B + 1, 0, none⟩ = some (.string t) := by rw [h3, hB]; simp [go_sem]
    have p2 : w3.drew.cell? ⟨B + 2, 0, none⟩ = some (.string s) := by rw [h3, hB]; simp [go_sem]
    have p3 : w3.drew.cell? ⟨B + 2, 1, none⟩ = some (.string ⟨#[104, 116, 116, 112, 58, 47, 47, 119, 119, 119, 46, 119, 51, 46, 111, 114, 103, 47, 50, 48, 48, 49, 47, 88, 77, 76, 83, 99, 104, 101, 109, 97, 35, 115, 116, 114, 105, 110, 103]⟩) := by rw [h3, hB]; simp [go_sem]
    have p4 : w3.drew.cell? ⟨B + 2, 2, none⟩ = some (.string ⟨#[]⟩) := by rw [h3, hB]; simp [go_sem]
    rw [← h3, ← hB]
    clear h3 hB hb1 hb2
    refine wp_region_held_drew (S := fun w' => w'.cell? ⟨B, 0, none⟩ = some (.string s) ∧ w'.cell? ⟨B + 1, 0, none⟩ = some (.string t) ∧ w'.cell? ⟨B + 2, 0, none⟩ = some (.string s) ∧ w'.cell? ⟨B + 2, 1, none⟩ = some (.string ⟨#[104, 116, 116, 112, 58, 47, 47, 119, 119, 119, 46, 119, 51, 46, 111, 114, 103, 47, 50, 48, 48, 49, 47, 88, 77, 76, 83, 99, 104, 101, 109, 97, 35, 115, 116, 114, 105, 110, 103]⟩) ∧ w'.cell? ⟨B + 2, 2, none⟩ = some (.string ⟨#[]⟩) ∧ Below w.heap.size w w') (by kernel_rfl) ?hSa0 (fun hHeld => ?_)
    case hSa0 => exact ⟨p0, p1, p2, p3, p4, HZ.out.drew⟩
    refine wpAnyH_take (i := 0) (oi := ⟨some 36, _, _, _, _, _⟩) (v := ?va0) rfl (by kernel_rfl) (by kernel_rfl) (by kernel_rfl) (fun _ _ _ h => h) (Or.inl ⟨by kernel_rfl, ?ya0⟩) (by assumption) ?ra0
    case ya0 =>
      intro w hSw
      try dsimp only at hSw
      first | (go_simp; done) | (go_simp; with_reducible rfl)
    try simp only [Act.put, List.setIfInBounds_toArray, List.set_cons_zero, List.set_cons_succ]
    refine wpAnyH_take (i := 1) (oi := ⟨some 37, _, _, _, _, _⟩) (v := ?va1) rfl (by kernel_rfl) (by kernel_rfl) (by kernel_rfl) (fun _ _ _ h => h) (Or.inl ⟨by kernel_rfl, ?ya1⟩) (by assumption) ?ra1
    case ya1 =>
      intro w hSw
      try dsimp only at hSw
      first | (go_simp; done) | (go_simp; with_reducible rfl)
    try simp only [Act.put, List.setIfInBounds_toArray, List.set_cons_zero, List.set_cons_succ]
    refine wpAnyH_take (i := 2) (oi := ⟨some 38, _, _, _, _, _⟩) (v := ?va2) rfl (by kernel_rfl) (by kernel_rfl) (by kernel_rfl) (fun _ _ _ h => h) (Or.inl ⟨by kernel_rfl, ?ya2⟩) (by assumption) ?ra2
    case ya2 =>
      intro w hSw
      try dsimp only at hSw
      first | (go_simp; done) | (go_simp; with_reducible rfl)
    try simp only [Act.put, List.setIfInBounds_toArray, List.set_cons_zero, List.set_cons_succ]
    refine wpAnyH_take (i := 3) (oi := ⟨some 39, _, _, _, _, _⟩) (v := ?va3) rfl (by kernel_rfl) (by kernel_rfl) (by kernel_rfl) (fun _ _ _ h => h) (Or.inl ⟨by kernel_rfl, ?ya3⟩) (by assumption) ?ra3
    case ya3 =>
      intro w hSw
      try dsimp only at hSw
      first | (go_simp; done) | (go_simp; with_reducible rfl)
    try simp only [Act.put, List.setIfInBounds_toArray, List.set_cons_zero, List.set_cons_succ]
    refine wpAnyH_ready (rs := [4]) (by kernel_rfl) (by simp) ?_
    refine AllReadyH.cons (i := 4) (o := ⟨some 40, _, _, _, _, _⟩) rfl (fun K hK => ?_) AllReadyH.nil
    go_simp
    go_at_call 29
    refine (O1.out _).mono ?_
    rintro e wp ⟨rfl, hb⟩
    go_wp2_with fail
    refine hK.out _ _ ?_ (fun hHeld => ?_)
    · exact kept_five (by assumption) hb
    clear hK K
    try simp only [Act.put, List.setIfInBounds_toArray, List.set_cons_zero, List.set_cons_succ]
    refine wpAnyH_take (i := 5) (oi := ⟨some 41, _, _, _, _, _⟩) (v := ?va5) rfl (by kernel_rfl) (by kernel_rfl) (by kernel_rfl) (fun _ _ _ h => h) (Or.inl ⟨by kernel_rfl, ?ya5⟩) (by assumption) ?ra5
    case ya5 =>
      intro w hSw
      try dsimp only at hSw
      first | (go_simp; done) | (go_simp; with_reducible rfl)
    try simp only [Act.put, List.setIfInBounds_toArray, List.set_cons_zero, List.set_cons_succ]
    refine wpAnyH_take (i := 6) (oi := ⟨some 42, _, _, _, _, _⟩) (v := ?va6) rfl (by kernel_rfl) (by kernel_rfl) (by kernel_rfl) (fun _ _ _ h => h) (Or.inl ⟨by kernel_rfl, ?ya6⟩) (by assumption) ?ra6
    case ya6 =>
      intro w hSw
      try dsimp only at hSw
      first | (go_simp; done) | (go_simp; with_reducible rfl)
    try simp only [Act.put, List.setIfInBounds_toArray, List.set_cons_zero, List.set_cons_succ]
    refine wpAnyH_take (i := 7) (oi := ⟨some 43, _, _, _, _, _⟩) (v := ?va7) rfl (by kernel_rfl) (by kernel_rfl) (by kernel_rfl) (fun _ _ _ h => h) (Or.inl ⟨by kernel_rfl, ?ya7⟩) (by assumption) ?ra7
    case ya7 =>
      intro w hSw
      try dsimp only at hSw
      first | (go_simp; done) | (go_simp; with_reducible rfl)
    try simp only [Act.put, List.setIfInBounds_toArray, List.set_cons_zero, List.set_cons_succ]
    refine wpAnyH_take (i := 8) (oi := ⟨some 44, _, _, _, _, _⟩) (v := ?va8) rfl (by kernel_rfl) (by kernel_rfl) (by kernel_rfl) (fun _ _ _ h => h) (Or.inl ⟨by kernel_rfl, ?ya8⟩) (by assumption) ?ra8
    case ya8 =>
      intro w hSw
      try dsimp only at hSw
      first | (go_simp; done) | (go_simp; with_reducible rfl)
    try simp only [Act.put, List.setIfInBounds_toArray, List.set_cons_zero, List.set_cons_succ]
    refine wpAnyH_take (i := 9) (oi := ⟨some 45, _, _, _, _, _⟩) (v := ?va9) rfl (by kernel_rfl) (by kernel_rfl) (by kernel_rfl) (fun _ _ _ h => h) (Or.inl ⟨by kernel_rfl, ?ya9⟩) (by assumption) ?ra9
    case ya9 =>
      intro w hSw
      try dsimp only at hSw
      first | (go_simp; done) | (go_simp; with_reducible rfl)
    try simp only [Act.put, List.setIfInBounds_toArray, List.set_cons_zero, List.set_cons_succ]
    refine wpAnyH_take (i := 10) (oi := ⟨some 46, _, _, _, _, _⟩) (v := ?va10) rfl (by kernel_rfl) (by kernel_rfl) (by kernel_rfl) (fun _ _ _ h => h) (Or.inl ⟨by kernel_rfl, ?ya10⟩) (by assumption) ?ra10
    case ya10 =>
      intro w hSw
      try dsimp only at hSw
      first | (go_simp; done) | (go_simp; with_reducible rfl)
    try simp only [Act.put, List.setIfInBounds_toArray, List.set_cons_zero, List.set_cons_succ]
    refine wpAnyH_ready (rs := [11]) (by kernel_rfl) (by simp) ?_
    refine AllReadyH.cons (i := 11) (o := ⟨some 47, _, _, _, _, _⟩) rfl (fun K hK => ?_) AllReadyH.nil
    go_simp
    go_at_call 29
    refine (O2.out _).mono ?_
    rintro e wp ⟨rfl, hb⟩
    go_wp2_with fail
    refine hK.out _ _ ?_ (fun hHeld => ?_)
    · exact kept_five (by assumption) hb
    clear hK K
    try simp only [Act.put, List.setIfInBounds_toArray, List.set_cons_zero, List.set_cons_succ]
    refine wpAnyH_take (i := 12) (oi := ⟨some 48, _, _, _, _, _⟩) (v := ?va12) rfl (by kernel_rfl) (by kernel_rfl) (by kernel_rfl) (fun _ _ _ h => h) (Or.inl ⟨by kernel_rfl, ?ya12⟩) (by assumption) ?ra12
    case ya12 =>
      intro w hSw
      try dsimp only at hSw
      first | (go_simp; done) | (go_simp; with_reducible rfl)
    try simp only [Act.put, List.setIfInBounds_toArray, List.set_cons_zero, List.set_cons_succ]
    refine wpAnyH_take (i := 13) (oi := ⟨some 49, _, _, _, _, _⟩) (v := ?va13) rfl (by kernel_rfl) (by kernel_rfl) (by kernel_rfl) (fun _ _ _ h => h) (Or.inl ⟨by kernel_rfl, ?ya13⟩) (by assumption) ?ra13
    case ya13 =>
      intro w hSw
      try dsimp only at hSw
      first | (go_simp; done) | (go_simp; with_reducible rfl)
    try simp only [Act.put, List.setIfInBounds_toArray, List.set_cons_zero, List.set_cons_succ]
    refine wpAnyH_take (i := 14) (oi := ⟨some 50, _, _, _, _, _⟩) (v := ?va14) rfl (by kernel_rfl) (by kernel_rfl) (by kernel_rfl) (fun _ _ _ h => h) (Or.inl ⟨by kernel_rfl, ?ya14⟩) (by assumption) ?ra14
    case ya14 =>
      intro w hSw
      try dsimp only at hSw
      first | (go_simp; done) | (go_simp; with_reducible rfl)
    try simp only [Act.put, List.setIfInBounds_toArray, List.set_cons_zero, List.set_cons_succ]
    refine wpAnyH_take (i := 15) (oi := ⟨some 51, _, _, _, _, _⟩) (v := ?va15) rfl (by kernel_rfl) (by kernel_rfl) (by kernel_rfl) (fun _ _ _ h => h) (Or.inl ⟨by kernel_rfl, ?ya15⟩) (by assumption) ?ra15
    case ya15 =>
      intro w hSw
      try dsimp only at hSw
      first | (go_simp; done) | (go_simp; with_reducible rfl)
    try simp only [Act.put, List.setIfInBounds_toArray, List.set_cons_zero, List.set_cons_succ]
    refine wpAnyH_take (i := 16) (oi := ⟨some 52, _, _, _, _, _⟩) (v := ?va16) rfl (by kernel_rfl) (by kernel_rfl) (by kernel_rfl) (fun _ _ _ h => h) (Or.inl ⟨by kernel_rfl, ?ya16⟩) (by assumption) ?ra16
    case ya16 =>
      intro w hSw
      try dsimp only at hSw
      first | (go_simp; done) | (go_simp; with_reducible rfl)
    try simp only [Act.put, List.setIfInBounds_toArray, List.set_cons_zero, List.set_cons_succ]
    refine wpAnyH_take (i := 17) (oi := ⟨some 53, _, _, _, _, _⟩) (v := ?va17) rfl (by kernel_rfl) (by kernel_rfl) (by kernel_rfl) (fun _ _ _ h => h) (Or.inl ⟨by kernel_rfl, ?ya17⟩) (by assumption) ?ra17
    case ya17 =>
      intro w hSw
      try dsimp only at hSw
      first | (go_simp; done) | (go_simp; with_reducible rfl)
    try simp only [Act.put, List.setIfInBounds_toArray, List.set_cons_zero, List.set_cons_succ]
    refine wpAnyH_take (i := 18) (oi := ⟨some 54, _, _, _, _, _⟩) (v := ?va18) rfl (by kernel_rfl) (by kernel_rfl) (by kernel_rfl) (fun _ _ _ h => h) (Or.inl ⟨by kernel_rfl, ?ya18⟩) (by assumption) ?ra18
    case ya18 =>
      intro w hSw
      try dsimp only at hSw
      first | (go_simp; done) | (go_simp; with_reducible rfl)
    try simp only [Act.put, List.setIfInBounds_toArray, List.set_cons_zero, List.set_cons_succ]
    refine wpAnyH_ready (rs := [19]) (by kernel_rfl) (by simp) ?_
    refine AllReadyH.cons (i := 19) (o := ⟨some 55, _, _, _, _, _⟩) rfl (fun K hK => ?_) AllReadyH.nil
    go_simp
    go_at_call 29
    refine (O3.out _).mono ?_
    rintro e wp ⟨rfl, hb⟩
    go_wp2_with fail
    refine hK.out _ _ ?_ (fun hHeld => ?_)
    · exact kept_five (by assumption) hb
    clear hK K
    try simp only [Act.put, List.setIfInBounds_toArray, List.set_cons_zero, List.set_cons_succ]
    refine wpAnyH_take (i := 20) (oi := ⟨some 56, _, _, _, _, _⟩) (v := ?va20) rfl (by kernel_rfl) (by kernel_rfl) (by kernel_rfl) (fun _ _ _ h => h) (Or.inl ⟨by kernel_rfl, ?ya20⟩) (by assumption) ?ra20
    case ya20 =>
      intro w hSw
      try dsimp only at hSw
      first | (go_simp; done) | (go_simp; with_reducible rfl)
    try simp only [Act.put, List.setIfInBounds_toArray, List.set_cons_zero, List.set_cons_succ]
    refine wpAnyH_take (i := 21) (oi := ⟨some 57, _, _, _, _, _⟩) (v := ?va21) rfl (by kernel_rfl) (by kernel_rfl) (by kernel_rfl) (fun _ _ _ h => h) (Or.inl ⟨by kernel_rfl, ?ya21⟩) (by assumption) ?ra21
    case ya21 =>
      intro w hSw
      try dsimp only at hSw
      first | (go_simp; done) | (go_simp; with_reducible rfl)
    try simp only [Act.put, List.setIfInBounds_toArray, List.set_cons_zero, List.set_cons_succ]
    refine wpAnyH_take (i := 22) (oi := ⟨some 58, _, _, _, _, _⟩) (v := ?va22) rfl (by kernel_rfl) (by kernel_rfl) (by kernel_rfl) (fun _ _ _ h => h) (Or.inl ⟨by kernel_rfl, ?ya22⟩) (by assumption) ?ra22
    case ya22 =>
      intro w hSw
      try dsimp only at hSw
      first | (go_simp; done) | (go_simp; with_reducible rfl)
    try simp only [Act.put, List.setIfInBounds_toArray, List.set_cons_zero, List.set_cons_succ]
    refine wpAnyH_take (i := 23) (oi := ⟨some 59, _, _, _, _, _⟩) (v := ?va23) rfl (by kernel_rfl) (by kernel_rfl) (by kernel_rfl) (fun _ _ _ h => h) (Or.inl ⟨by kernel_rfl, ?ya23⟩) (by assumption) ?ra23
    case ya23 =>
      intro w hSw
      try dsimp only at hSw
      first | (go_simp; done) | (go_simp; with_reducible rfl)
    try simp only [Act.put, List.setIfInBounds_toArray, List.set_cons_zero, List.set_cons_succ]
    refine wpAnyH_take (i := 24) (oi := ⟨some 60, _, _, _, _, _⟩) (v := ?va24) rfl (by kernel_rfl) (by kernel_rfl) (by kernel_rfl) (fun _ _ _ h => h) (Or.inl ⟨by kernel_rfl, ?ya24⟩) (by assumption) ?ra24
    case ya24 =>
      intro w hSw
      try dsimp only at hSw
      first | (go_simp; done) | (go_simp; with_reducible rfl)
    try simp only [Act.put, List.setIfInBounds_toArray, List.set_cons_zero, List.set_cons_succ]
    refine wpAnyH_take (i := 25) (oi := ⟨some 61, _, _, _, _, _⟩) (v := ?va25) rfl (by kernel_rfl) (by kernel_rfl) (by kernel_rfl) (fun _ _ _ h => h) (Or.inl ⟨by kernel_rfl, ?ya25⟩) (by assumption) ?ra25
    case ya25 =>
      intro w hSw
      try dsimp only at hSw
      first | (go_simp; done) | (go_simp; with_reducible rfl)
    try simp only [Act.put, List.setIfInBounds_toArray, List.set_cons_zero, List.set_cons_succ]
    refine wpAnyH_take (i := 26) (oi := ⟨some 62, _, _, _, _, _⟩) (v := ?va26) rfl (by kernel_rfl) (by kernel_rfl) (by kernel_rfl) (fun _ _ _ h => h) (Or.inl ⟨by kernel_rfl, ?ya26⟩) (by assumption) ?ra26
    case ya26 =>
      intro w hSw
      try dsimp only at hSw
      first | (go_simp; done) | (go_simp; with_reducible rfl)
    try simp only [Act.put, List.setIfInBounds_toArray, List.set_cons_zero, List.set_cons_succ]
    refine wpAnyH_ready (rs := [27]) (by kernel_rfl) (by simp) ?_
    refine AllReadyH.cons (i := 27) (o := ⟨some 63, _, _, _, _, _⟩) rfl (fun K hK => ?_) AllReadyH.nil
    go_simp
    go_at_call 29
    refine (O4.out _).mono ?_
    rintro e wp ⟨rfl, hb⟩
    go_wp2_with fail
    refine hK.out _ _ ?_ (fun hHeld => ?_)
    · exact kept_five (by assumption) hb
    clear hK K
    try simp only [Act.put, List.setIfInBounds_toArray, List.set_cons_zero, List.set_cons_succ]
    refine wpAnyH_take (i := 28) (oi := ⟨some 64, _, _, _, _, _⟩) (v := ?va28) rfl (by kernel_rfl) (by kernel_rfl) (by kernel_rfl) (fun _ _ _ h => h) (Or.inl ⟨by kernel_rfl, ?ya28⟩) (by assumption) ?ra28
    case ya28 =>
      intro w hSw
      try dsimp only at hSw
      first | (go_simp; done) | (go_simp; with_reducible rfl)
    try simp only [Act.put, List.setIfInBounds_toArray, List.set_cons_zero, List.set_cons_succ]
    refine wpAnyH_take (i := 29) (oi := ⟨some 65, _, _, _, _, _⟩) (v := ?va29) rfl (by kernel_rfl) (by kernel_rfl) (by kernel_rfl) (fun _ _ _ h => h) (Or.inl ⟨by kernel_rfl, ?ya29⟩) (by assumption) ?ra29
    case ya29 =>
      intro w hSw
      try dsimp only at hSw
      first | (go_simp; done) | (go_simp; with_reducible rfl)
    try simp only [Act.put, List.setIfInBounds_toArray, List.set_cons_zero, List.set_cons_succ]
    refine wpAnyH_take (i := 30) (oi := ⟨some 66, _, _, _, _, _⟩) (v := ?va30) rfl (by kernel_rfl) (by kernel_rfl) (by kernel_rfl) (fun _ _ _ h => h) (Or.inl ⟨by kernel_rfl, ?ya30⟩) (by assumption) ?ra30
    case ya30 =>
      intro w hSw
      try dsimp only at hSw
      first | (go_simp; done) | (go_simp; with_reducible rfl)
    try simp only [Act.put, List.setIfInBounds_toArray, List.set_cons_zero, List.set_cons_succ]
    refine wpAnyH_take (i := 31) (oi := ⟨some 67, _, _, _, _, _⟩) (v := ?va31) rfl (by kernel_rfl) (by kernel_rfl) (by kernel_rfl) (fun _ _ _ h => h) (Or.inl ⟨by kernel_rfl, ?ya31⟩) (by assumption) ?ra31
    case ya31 =>
      intro w hSw
      try dsimp only at hSw
      first | (go_simp; done) | (go_simp; with_reducible rfl)
    try simp only [Act.put, List.setIfInBounds_toArray, List.set_cons_zero, List.set_cons_succ]
    refine wpAnyH_take (i := 32) (oi := ⟨some 68, _, _, _, _, _⟩) (v := ?va32) rfl (by kernel_rfl) (by kernel_rfl) (by kernel_rfl) (fun _ _ _ h => h) (Or.inl ⟨by kernel_rfl, ?ya32⟩) (by assumption) ?ra32
    case ya32 =>
      intro w hSw
      try dsimp only at hSw
      first | (go_simp; done) | (go_simp; with_reducible rfl)
    try simp only [Act.put, List.setIfInBounds_toArray, List.set_cons_zero, List.set_cons_succ]
    refine wpAnyH_take (i := 33) (oi := ⟨some 69, _, _, _, _, _⟩) (v := ?va33) rfl (by kernel_rfl) (by kernel_rfl) (by kernel_rfl) (fun _ _ _ h => h) (Or.inl ⟨by kernel_rfl, ?ya33⟩) (by assumption) ?ra33
    case ya33 =>
      intro w hSw
      try dsimp only at hSw
      first | (go_simp; done) | (go_simp; with_reducible rfl)
    try simp only [Act.put, List.setIfInBounds_toArray, List.set_cons_zero, List.set_cons_succ]
    refine wpAnyH_take (i := 37) (oi := ⟨some 73, _, _, _, _, _⟩) (v := ?va37) rfl (by kernel_rfl) (by kernel_rfl) (by kernel_rfl) (fun _ _ _ h => h) (Or.inl ⟨by kernel_rfl, ?ya37⟩) (by assumption) ?ra37
    case ya37 =>
      intro w hSw
      try dsimp only at hSw
      first | (go_simp; done) | (go_simp; with_reducible rfl)
    try simp only [Act.put, List.setIfInBounds_toArray, List.set_cons_zero, List.set_cons_succ]
    refine wpAnyH_ready (rs := [34]) (by kernel_rfl) (by simp) ?_
    refine AllReadyH.cons (i := 34) (o := ⟨some 70, _, _, _, _, _⟩) rfl (fun K hK => ?_) AllReadyH.nil
    go_simp
    go_at_call 18
    refine (PL.out _).mono ?_
    rintro e wp ⟨rfl, hb⟩
    go_wp2_with fail
    refine hK.out _ _ ?_ (fun hHeld => ?_)
    · exact kept_five (by assumption) hb
    clear hK K
    try simp only [Act.put, List.setIfInBounds_toArray, List.set_cons_zero, List.set_cons_succ]
    refine wpAnyH_take (i := 35) (oi := ⟨some 71, _, _, _, _, _⟩) (v := ?va35) rfl (by kernel_rfl) (by kernel_rfl) (by kernel_rfl) (fun _ _ _ h => h) (Or.inl ⟨by kernel_rfl, ?ya35⟩) (by assumption) ?ra35
    case ya35 =>
      intro w hSw
      try dsimp only at hSw
      first | (go_simp; done) | (go_simp; with_reducible rfl)
    try simp only [Act.put, List.setIfInBounds_toArray, List.set_cons_zero, List.set_cons_succ]
    refine wpAnyH_ready (rs := [36]) (by kernel_rfl) (by simp) ?_
    refine AllReadyH.cons (i := 36) (o := ⟨some 72, _, _, _, _, _⟩) rfl (fun K hK => ?_) AllReadyH.nil
    go_simp
    go_at_call 29
    refine (O5.out _).mono ?_
    rintro e wp ⟨rfl, hb⟩
    go_wp2_with fail
    refine hK.out _ _ ?_ (fun hHeld => ?_)
    · exact kept_five (by assumption) hb
    clear hK K
    try simp only [Act.put, List.setIfInBounds_toArray, List.set_cons_zero, List.set_cons_succ]
    refine wpAnyH_take (i := 38) (oi := ⟨some 74, _, _, _, _, _⟩) (v := ?va38) rfl (by kernel_rfl) (by kernel_rfl) (by kernel_rfl) (fun _ _ _ h => h) (Or.inl ⟨by kernel_rfl, ?ya38⟩) (by assumption) ?ra38
    case ya38 =>
      intro w hSw
      try dsimp only at hSw
      first | (go_simp; done) | (go_simp; with_reducible rfl)
    try simp only [Act.put, List.setIfInBounds_toArray, List.set_cons_zero, List.set_cons_succ]
    refine wpAnyH_take (i := 39) (oi := ⟨some 75, _, _, _, _, _⟩) (v := ?va39) rfl (by kernel_rfl) (by kernel_rfl) (by kernel_rfl) (fun _ _ _ h => h) (Or.inl ⟨by kernel_rfl, ?ya39⟩) (by assumption) ?ra39
    case ya39 =>
      intro w hSw
      try dsimp only at hSw
      first | (go_simp; done) | (go_simp; with_reducible rfl)
    try simp only [Act.put, List.setIfInBounds_toArray, List.set_cons_zero, List.set_cons_succ]
    refine wpAnyH_take (i := 40) (oi := ⟨some 76, _, _, _, _, _⟩) (v := ?va40) rfl (by kernel_rfl) (by kernel_rfl) (by kernel_rfl) (fun _ _ _ h => h) (Or.inl ⟨by kernel_rfl, ?ya40⟩) (by assumption) ?ra40
    case ya40 =>
      intro w hSw
      try dsimp only at hSw
      first | (go_simp; done) | (go_simp; with_reducible rfl)
    try simp only [Act.put, List.setIfInBounds_toArray, List.set_cons_zero, List.set_cons_succ]
    refine wpAnyH_take (i := 41) (oi := ⟨some 77, _, _, _, _, _⟩) (v := ?va41) rfl (by kernel_rfl) (by kernel_rfl) (by kernel_rfl) (fun _ _ _ h => h) (Or.inl ⟨by kernel_rfl, ?ya41⟩) (by assumption) ?ra41
    case ya41 =>
      intro w hSw
      try dsimp only at hSw
      first | (go_simp; done) | (go_simp; with_reducible rfl)
    try simp only [Act.put, List.setIfInBounds_toArray, List.set_cons_zero, List.set_cons_succ]
    refine wpAnyH_take (i := 42) (oi := ⟨some 78, _, _, _, _, _⟩) (v := ?va42) rfl (by kernel_rfl) (by kernel_rfl) (by kernel_rfl) (fun _ _ _ h => h) (Or.inl ⟨by kernel_rfl, ?ya42⟩) (by assumption) ?ra42
    case ya42 =>
      intro w hSw
      try dsimp only at hSw
      first | (go_simp; done) | (go_simp; with_reducible rfl)
    try simp only [Act.put, List.setIfInBounds_toArray, List.set_cons_zero, List.set_cons_succ]
    refine wpAnyH_take (i := 43) (oi := ⟨some 79, _, _, _, _, _⟩) (v := ?va43) rfl (by kernel_rfl) (by kernel_rfl) (by kernel_rfl) (fun _ _ _ h => h) (Or.inl ⟨by kernel_rfl, ?ya43⟩) (by assumption) ?ra43
    case ya43 =>
      intro w hSw
      try dsimp only at hSw
      first | (go_simp; done) | (go_simp; with_reducible rfl)
    try simp only [Act.put, List.setIfInBounds_toArray, List.set_cons_zero, List.set_cons_succ]
    refine wpAnyH_take (i := 44) (oi := ⟨some 80, _, _, _, _, _⟩) (v := ?va44) rfl (by kernel_rfl) (by kernel_rfl) (by kernel_rfl) (fun _ _ _ h => h) (Or.inl ⟨by kernel_rfl, ?ya44⟩) (by assumption) ?ra44
    case ya44 =>
      intro w hSw
      try dsimp only at hSw
      first | (go_simp; done) | (go_simp; with_reducible rfl)
    try simp only [Act.put, List.setIfInBounds_toArray, List.set_cons_zero, List.set_cons_succ]
    refine wpAnyH_take (i := 45) (oi := ⟨some 81, _, _, _, _, _⟩) (v := ?va45) rfl (by kernel_rfl) (by kernel_rfl) (by kernel_rfl) (fun _ _ _ h => h) (Or.inl ⟨by kernel_rfl, ?ya45⟩) (by assumption) ?ra45
    case ya45 =>
      intro w hSw
      try dsimp only at hSw
      first | (go_simp; done) | (go_simp; with_reducible rfl)
    try simp only [Act.put, List.setIfInBounds_toArray, List.set_cons_zero, List.set_cons_succ]
    refine wpAnyH_take (i := 47) (oi := ⟨some 83, _, _, _, _, _⟩) (v := ?va47) rfl (by kernel_rfl) (by kernel_rfl) (by kernel_rfl) (fun _ _ _ h => h) (Or.inl ⟨by kernel_rfl, ?ya47⟩) (by assumption) ?ra47
    case ya47 =>
      intro w hSw
      try dsimp only at hSw
      first | (go_simp; done) | (go_simp; with_reducible rfl)
    try simp only [Act.put, List.setIfInBounds_toArray, List.set_cons_zero, List.set_cons_succ]
    refine wpAnyH_ready (rs := [46]) (by kernel_rfl) (by simp) ?_
    refine AllReadyH.cons (i := 46) (o := ⟨some 82, _, _, _, _, _⟩) rfl (fun K hK => ?_) AllReadyH.nil
    go_simp
    go_at_call 29
    refine (O6.out _).mono ?_
    rintro e wp ⟨rfl, hb⟩
    go_wp2_with fail
    refine hK.out _ _ ?_ (fun hHeld => ?_)
    · exact kept_five (by assumption) hb
    clear hK K
    try simp only [Act.put, List.setIfInBounds_toArray, List.set_cons_zero, List.set_cons_succ]
    refine wpAnyH_take (i := 48) (oi := ⟨some 84, _, _, _, _, _⟩) (v := ?va48) rfl (by kernel_rfl) (by kernel_rfl) (by kernel_rfl) (fun _ _ _ h => h) (Or.inl ⟨by kernel_rfl, ?ya48⟩) (by assumption) ?ra48
    case ya48 =>
      intro w hSw
      try dsimp only at hSw
      first | (go_simp; done) | (go_simp; with_reducible rfl)
    try simp only [Act.put, List.setIfInBounds_toArray, List.set_cons_zero, List.set_cons_succ]
    refine wpAnyH_take (i := 49) (oi := ⟨some 85, _, _, _, _, _⟩) (v := ?va49) rfl (by kernel_rfl) (by kernel_rfl) (by kernel_rfl) (fun _ _ _ h => h) (Or.inl ⟨by kernel_rfl, ?ya49⟩) (by assumption) ?ra49
    case ya49 =>
      intro w hSw
      try dsimp only at hSw
      first | (go_simp; done) | (go_simp; with_reducible rfl)
    try simp only [Act.put, List.setIfInBounds_toArray, List.set_cons_zero, List.set_cons_succ]
    refine wpAnyH_take (i := 50) (oi := ⟨some 86, _, _, _, _, _⟩) (v := ?va50) rfl (by kernel_rfl) (by kernel_rfl) (by kernel_rfl) (fun _ _ _ h => h) (Or.inl ⟨by kernel_rfl, ?ya50⟩) (by assumption) ?ra50
    case ya50 =>
      intro w hSw
      try dsimp only at hSw
      first | (go_simp; done) | (go_simp; with_reducible rfl)
    try simp only [Act.put, List.setIfInBounds_toArray, List.set_cons_zero, List.set_cons_succ]
    refine wpAnyH_take (i := 51) (oi := ⟨some 87, _, _, _, _, _⟩) (v := ?va51) rfl (by kernel_rfl) (by kernel_rfl) (by kernel_rfl) (fun _ _ _ h => h) (Or.inl ⟨by kernel_rfl, ?ya51⟩) (by assumption) ?ra51
    case ya51 =>
      intro w hSw
      try dsimp only at hSw
      first | (go_simp; done) | (go_simp; with_reducible rfl)
    try simp only [Act.put, List.setIfInBounds_toArray, List.set_cons_zero, List.set_cons_succ]
    refine wpAnyH_take (i := 52) (oi := ⟨some 88, _, _, _, _, _⟩) (v := ?va52) rfl (by kernel_rfl) (by kernel_rfl) (by kernel_rfl) (fun _ _ _ h => h) (Or.inl ⟨by kernel_rfl, ?ya52⟩) (by assumption) ?ra52
    case ya52 =>
      intro w hSw
      try dsimp only at hSw
      first | (go_simp; done) | (go_simp; with_reducible rfl)
    try simp only [Act.put, List.setIfInBounds_toArray, List.set_cons_zero, List.set_cons_succ]
    refine wpAnyH_take (i := 53) (oi := ⟨some 89, _, _, _, _, _⟩) (v := ?va53) rfl (by kernel_rfl) (by kernel_rfl) (by kernel_rfl) (fun _ _ _ h => h) (Or.inl ⟨by kernel_rfl, ?ya53⟩) (by assumption) ?ra53
    case ya53 =>
      intro w hSw
      try dsimp only at hSw
      first | (go_simp; done) | (go_simp; with_reducible rfl)
    try simp only [Act.put, List.setIfInBounds_toArray, List.set_cons_zero, List.set_cons_succ]
    refine wpAnyH_take (i := 54) (oi := ⟨some 90, _, _, _, _, _⟩) (v := ?va54) rfl (by kernel_rfl) (by kernel_rfl) (by kernel_rfl) (fun _ _ _ h => h) (Or.inl ⟨by kernel_rfl, ?ya54⟩) (by assumption) ?ra54
    case ya54 =>
      intro w hSw
      try dsimp only at hSw
      first | (go_simp; done) | (go_simp; with_reducible rfl)
    try simp only [Act.put, List.setIfInBounds_toArray, List.set_cons_zero, List.set_cons_succ]
    refine wpAnyH_take (i := 55) (oi := ⟨some 91, _, _, _, _, _⟩) (v := ?va55) rfl (by kernel_rfl) (by kernel_rfl) (by kernel_rfl) (fun _ _ _ h => h) (Or.inl ⟨by kernel_rfl, ?ya55⟩) (by assumption) ?ra55
    case ya55 =>
      intro w hSw
      try dsimp only at hSw
      first | (go_simp; done) | (go_simp; with_reducible rfl)
    try simp only [Act.put, List.setIfInBounds_toArray, List.set_cons_zero, List.set_cons_succ]
    refine wpAnyH_take (i := 57) (oi := ⟨some 93, _, _, _, _, _⟩) (v := ?va57) rfl (by kernel_rfl) (by kernel_rfl) (by kernel_rfl) (fun _ _ _ h => h) (Or.inl ⟨by kernel_rfl, ?ya57⟩) (by assumption) ?ra57
    case ya57 =>
      intro w hSw
      try dsimp only at hSw
      first | (go_simp; done) | (go_simp; with_reducible rfl)
    try simp only [Act.put, List.setIfInBounds_toArray, List.set_cons_zero, List.set_cons_succ]
    refine wpAnyH_ready (rs := [56]) (by kernel_rfl) (by simp) ?_
    refine AllReadyH.cons (i := 56) (o := ⟨some 92, _, _, _, _, _⟩) rfl (fun K hK => ?_) AllReadyH.nil
    go_simp
    go_at_call 29
    refine (O7.out _).mono ?_
    rintro e wp ⟨rfl, hb⟩
    go_wp2_with fail
    refine hK.out _ _ ?_ (fun hHeld => ?_)
    · exact kept_five (by assumption) hb
    clear hK K
    try simp only [Act.put, List.setIfInBounds_toArray, List.set_cons_zero, List.set_cons_succ]
    refine wpAnyH_take (i := 58) (oi := ⟨some 94, _, _, _, _, _⟩) (v := ?va58) rfl (by kernel_rfl) (by kernel_rfl) (by kernel_rfl) (fun _ _ _ h => h) (Or.inl ⟨by kernel_rfl, ?ya58⟩) (by assumption) ?ra58
    case ya58 =>
      intro w hSw
      try dsimp only at hSw
      first | (go_simp; done) | (go_simp; with_reducible rfl)
    try simp only [Act.put, List.setIfInBounds_toArray, List.set_cons_zero, List.set_cons_succ]
    refine wpAnyH_take (i := 59) (oi := ⟨some 95, _, _, _, _, _⟩) (v := ?va59) rfl (by kernel_rfl) (by kernel_rfl) (by kernel_rfl) (fun _ _ _ h => h) (Or.inl ⟨by kernel_rfl, ?ya59⟩) (by assumption) ?ra59
    case ya59 =>
      intro w hSw
      try dsimp only at hSw
      first | (go_simp; done) | (go_simp; with_reducible rfl)
    try simp only [Act.put, List.setIfInBounds_toArray, List.set_cons_zero, List.set_cons_succ]
    refine wpAnyH_take (i := 60) (oi := ⟨some 4, _, _, _, _, _⟩) (v := ?va60) rfl (by kernel_rfl) (by kernel_rfl) (by kernel_rfl) (fun _ _ _ h => h) (Or.inl ⟨by kernel_rfl, ?ya60⟩) (by assumption) ?ra60
    case ya60 =>
      intro w hSw
      try dsimp only at hSw
      first | (go_simp; done) | (go_simp; with_reducible rfl)
    try simp only [Act.put, List.setIfInBounds_toArray, List.set_cons_zero, List.set_cons_succ]
    refine wpAnyH_done (by kernel_rfl) ?_ _
    obtain ⟨_, _, _, _, _, zz⟩ := hHeld
    have HZ2 := Lib.hid zz
    clear zz
    go_wp2_with fail
    go_ret
    exact ⟨rfl, HZ2.out⟩
  | false =>
    cases h2 : s.toList == t.toList with
    | true =>
      have hc : cmpS s t = 0 := by unfold cmpS lessS sameS; rw [h1, h2]; rfl
      rw [hc] at O5 O6 O7
      rw [h1, h2] at gt
      clear hc h2
      go_enter Tryd.func9, Tryd.ntmps9
      go_wp2_with fail
      refine (AW.out _ HV.out).mono ?_
      rintro e w1 ⟨rfl, hb1⟩
      go_wp2_with fail
      refine (PS.out _).mono ?_
      rintro e w2 ⟨rfl, hb2⟩
      go_wp2_with fail
      obtain ⟨B, hB⟩ : ∃ B, B = w2.heap.size := ⟨_, rfl⟩
      obtain ⟨w3, h3⟩ : ∃ w3, w3 = ((w2.alloc (.cells #[.string s] 62)).alloc (.cells #[.string t] 53)).alloc (.cells #[.string s, .string ⟨#[104, 116, 116, 112, 58, 47, 47, 119, 119, 119, 46, 119, 51, 46, 111, 114, 103, 47, 50, 48, 48, 49, 47, 88, 77, 76, 83, 99, 104, 101, 109, 97, 35, 115, 116, 114, 105, 110, 103]⟩, .string ⟨#[]⟩] 35) := ⟨_, rfl⟩
      have HZ : Hid (Below w.heap.size w w3) := Lib.hid (by rw [h3]; have h12 := hb1.trans (hb2.mono hb1.size); have hz := h12.size; exact ((h12.alloc hz _).alloc (by simp; omega) _).alloc (by simp; omega) _)
      have p0 : w3.drew.cell? ⟨B, 0, none⟩ = some (.string s) := by rw [h3, hB]; simp [go_sem]
      have p1 : w3.drew.cell? ⟨B + 1, 0, none⟩ = some (.string t) := by rw [h3, hB]; simp [go_sem]
      have p2 : w3.drew.cell? ⟨B + 2, 0, none⟩ = some (.string s) := by rw [h3, hB]; simp [go_sem]
      have p3 : w3.drew.cell? ⟨B + 2, 1, none⟩ = some (.string ⟨#[104, 116, 116, 112, 58, 47, 47, 119, 119, 119, 46, 119, 51, 46, 111, 114, 103, 47, 50, 48, 48, 49, 47, 88, 77, 76, 83, 99, 104, 101, 109, 97, 35, 115, 116, 114, 105, 110, 103]⟩) := by rw [h3, hB]; simp [go_sem]
      have p4 : w3.drew.cell? ⟨B + 2, 2, none⟩ = some (.string ⟨#[]⟩) := by rw [h3, hB]; simp [go_sem]
      rw [← h3, ← hB]
      clear h3 hB hb1 hb2
      refine wp_region_held_drew (S := fun w' => w'.cell? ⟨B, 0, none⟩ = some (.string s) ∧ w'.cell? ⟨B + 1, 0, none⟩ = some (.string t) ∧ w'.cell? ⟨B + 2, 0, none⟩ = some (.string s) ∧ w'.cell? ⟨B + 2, 1, none⟩ = some (.string ⟨#[104, 116, 116, 112, 58, 47, 47, 119, 119, 119, 46, 119, 51, 46, 111, 114, 103, 47, 50, 48, 48, 49, 47, 88, 77, 76, 83, 99, 104, 101, 109, 97, 35, 115, 116, 114, 105, 110, 103]⟩) ∧ w'.cell? ⟨B + 2, 2, none⟩ = some (.string ⟨#[]⟩) ∧ Below w.heap.size w w') (by kernel_rfl) ?hSb0 (fun hHeld => ?_)
      case hSb0 => exact ⟨p0, p1, p2, p3, p4, HZ.out.drew⟩
      refine wpAnyH_take (i := 0) (oi := ⟨some 36, _, _, _, _, _⟩) (v := ?vb0) rfl (by kernel_rfl) (by kernel_rfl) (by kernel_rfl) (fun _ _ _ h => h) (Or.inl ⟨by kernel_rfl, ?yb0⟩) (by assumption) ?rb0
      case yb0 =>
        intro w hSw
        try dsimp only at hSw
        first | (go_simp; done) | (go_simp; with_reducible rfl)
      try simp only [Act.put, List.setIfInBounds_toArray, List.set_cons_zero, List.set_cons_succ]
      refine wpAnyH_take (i := 1) (oi := ⟨some 37, _, _, _, _, _⟩) (v := ?vb1) rfl (by kernel_rfl) (by kernel_rfl) (by kernel_rfl) (fun _ _ _ h => h) (Or.inl ⟨by kernel_rfl, ?yb1⟩) (by assumption) ?rb1
      case yb1 =>
        intro w hSw
        try dsimp only at hSw
        first | (go_simp; done) | (go_simp; with_reducible rfl)
      try simp only [Act.put, List.setIfInBounds_toArray, List.set_cons_zero, List.set_cons_succ]
      refine wpAnyH_take (i := 2) (oi := ⟨some 38, _, _, _, _, _⟩) (v := ?vb2) rfl (by kernel_rfl) (by kernel_rfl) (by kernel_rfl) (fun _ _ _ h => h) (Or.inl ⟨by kernel_rfl, ?yb2⟩) (by assumption) ?rb2
      case yb2 =>
        intro w hSw
        try dsimp only at hSw
        first | (go_simp; done) | (go_simp; with_reducible rfl)
      try simp only [Act.put, List.setIfInBounds_toArray, List.set_cons_zero, List.set_cons_succ]
      refine wpAnyH_take (i := 3) (oi := ⟨some 39, _, _, _, _, _⟩) (v := ?vb3) rfl (by kernel_rfl) (by kernel_rfl) (by kernel_rfl) (fun _ _ _ h => h) (Or.inl ⟨by kernel_rfl, ?yb3⟩) (by assumption) ?rb3
      case yb3 =>
        intro w hSw
        try dsimp only at hSw
        first | (go_simp; done) | (go_simp; with_reducible rfl)
      try simp only [Act.put, List.setIfInBounds_toArray, List.set_cons_zero, List.set_cons_succ]
      refine wpAnyH_ready (rs := [4]) (by kernel_rfl) (by simp) ?_
      refine AllReadyH.cons (i := 4) (o := ⟨some 40, _, _, _, _, _⟩) rfl (fun K hK => ?_) AllReadyH.nil
      go_simp
      go_at_call 29
      refine (O1.out _).mono ?_
      rintro e wp ⟨rfl, hb⟩
      go_wp2_with fail
      refine hK.out _ _ ?_ (fun hHeld => ?_)
      · exact kept_five (by assumption) hb
      clear hK K
      try simp only [Act.put, List.setIfInBounds_toArray, List.set_cons_zero, List.set_cons_succ]
      refine wpAnyH_take (i := 5) (oi := ⟨some 41, _, _, _, _, _⟩) (v := ?vb5) rfl (by kernel_rfl) (by kernel_rfl) (by kernel_rfl) (fun _ _ _ h => h) (Or.inl ⟨by kernel_rfl, ?yb5⟩) (by assumption) ?rb5
      case yb5 =>
        intro w hSw
        try dsimp only at hSw
        first | (go_simp; done) | (go_simp; with_reducible rfl)
      try simp only [Act.put, List.setIfInBounds_toArray, List.set_cons_zero, List.set_cons_succ]
      refine wpAnyH_take (i := 6) (oi := ⟨some 42, _, _, _, _, _⟩) (v := ?vb6) rfl (by kernel_rfl) (by kernel_rfl) (by kernel_rfl) (fun _ _ _ h => h) (Or.inl ⟨by kernel_rfl, ?yb6⟩) (by assumption) ?rb6
      case yb6 =>
        intro w hSw
        try dsimp only at hSw
        first | (go_simp; done) | (go_simp; with_reducible rfl)
      try simp only [Act.put, List.setIfInBounds_toArray, List.set_cons_zero, List.set_cons_succ]
      refine wpAnyH_take (i := 7) (oi := ⟨some 43, _, _, _, _, _⟩) (v := ?vb7) rfl (by kernel_rfl) (by kernel_rfl) (by kernel_rfl) (fun _ _ _ h => h) (Or.inl ⟨by kernel_rfl, ?yb7⟩) (by assumption) ?rb7
      case yb7 =>
        intro w hSw
        try dsimp only at hSw
        first | (go_simp; done) | (go_simp; with_reducible rfl)
      try simp only [Act.put, List.setIfInBounds_toArray, List.set_cons_zero, List.set_cons_succ]
      refine wpAnyH_take (i := 8) (oi := ⟨some 44, _, _, _, _, _⟩) (v := ?vb8) rfl (by kernel_rfl) (by kernel_rfl) (by kernel_rfl) (fun _ _ _ h => h) (Or.inl ⟨by kernel_rfl, ?yb8⟩) (by assumption) ?rb8
      case yb8 =>
        intro w hSw
        try dsimp only at hSw
        first | (go_simp; done) | (go_simp; with_reducible rfl)
      try simp only [Act.put, List.setIfInBounds_toArray, List.set_cons_zero, List.set_cons_succ]
      refine wpAnyH_take (i := 9) (oi := ⟨some 45, _, _, _, _, _⟩) (v := ?vb9) rfl (by kernel_rfl) (by kernel_rfl) (by kernel_rfl) (fun _ _ _ h => h) (Or.inl ⟨by kernel_rfl, ?yb9⟩) (by assumption) ?rb9
      case yb9 =>
        intro w hSw
        try dsimp only at hSw
        first | (go_simp; done) | (go_simp; with_reducible rfl)
      try simp only [Act.put, List.setIfInBounds_toArray, List.set_cons_zero, List.set_cons_succ]
      refine wpAnyH_take (i := 10) (oi := ⟨some 46, _, _, _, _, _⟩) (v := ?vb10) rfl (by kernel_rfl) (by kernel_rfl) (by kernel_rfl) (fun _ _ _ h => h) (Or.inl ⟨by kernel_rfl, ?yb10⟩) (by assumption) ?rb10
      case yb10 =>
        intro w hSw
        try dsimp only at hSw
        first | (go_simp; done) | (go_simp; with_reducible rfl)
      try simp only [Act.put, List.setIfInBounds_toArray, List.set_cons_zero, List.set_cons_succ]
      refine wpAnyH_ready (rs := [11]) (by kernel_rfl) (by simp) ?_
      refine AllReadyH.cons (i := 11) (o := ⟨some 47, _, _, _, _, _⟩) rfl (fun K hK => ?_) AllReadyH.nil
      go_simp
      go_at_call 29
      refine (O2.out _).mono ?_
      rintro e wp ⟨rfl, hb⟩
      go_wp2_with fail
      refine hK.out _ _ ?_ (fun hHeld => ?_)
      · exact kept_five (by assumption) hb
      clear hK K
      try simp only [Act.put, List.setIfInBounds_toArray, List.set_cons_zero, List.set_cons_succ]
      refine wpAnyH_take (i := 12) (oi := ⟨some 48, _, _, _, _, _⟩) (v := ?vb12) rfl (by kernel_rfl) (by kernel_rfl) (by kernel_rfl) (fun _ _ _ h => h) (Or.inl ⟨by kernel_rfl, ?yb12⟩) (by assumption) ?rb12
      case yb12 =>
        intro w hSw
        try dsimp only at hSw
        first | (go_simp; done) | (go_simp; with_reducible rfl)
      try simp only [Act.put, List.setIfInBounds_toArray, List.set_cons_zero, List.set_cons_succ]
      refine wpAnyH_take (i := 13) (oi := ⟨some 49, _, _, _, _, _⟩) (v := ?vb13) rfl (by kernel_rfl) (by kernel_rfl) (by kernel_rfl) (fun _ _ _ h => h) (Or.inl ⟨by kernel_rfl, ?yb13⟩) (by assumption) ?rb13
      case yb13 =>
        intro w hSw
        try dsimp only at hSw
        first | (go_simp; done) | (go_simp; with_reducible rfl)
      try simp only [Act.put, List.setIfInBounds_toArray, List.set_cons_zero, List.set_cons_succ]
      refine wpAnyH_take (i := 14) (oi := ⟨some 50, _, _, _, _, _⟩) (v := ?vb14) rfl (by kernel_rfl) (by kernel_rfl) (by kernel_rfl) (fun _ _ _ h => h) (Or.inl ⟨by kernel_rfl, ?yb14⟩) (by assumption) ?rb14
      case yb14 =>
        intro w hSw
        try dsimp only at hSw
        first | (go_simp; done) | (go_simp; with_reducible rfl)
      try simp only [Act.put, List.setIfInBounds_toArray, List.set_cons_zero, List.set_cons_succ]
      refine wpAnyH_take (i := 15) (oi := ⟨some 51, _, _, _, _, _⟩) (v := ?vb15) rfl (by kernel_rfl) (by kernel_rfl) (by kernel_rfl) (fun _ _ _ h => h) (Or.inl ⟨by kernel_rfl, ?yb15⟩) (by assumption) ?rb15
      case yb15 =>
        intro w hSw
        try dsimp only at hSw
        first | (go_simp; done) | (go_simp; with_reducible rfl)
      try simp only [Act.put, List.setIfInBounds_toArray, List.set_cons_zero, List.set_cons_succ]
      refine wpAnyH_take (i := 16) (oi := ⟨some 52, _, _, _, _, _⟩) (v := ?vb16) rfl (by kernel_rfl) (by kernel_rfl) (by kernel_rfl) (fun _ _ _ h => h) (Or.inl ⟨by kernel_rfl, ?yb16⟩) (by assumption) ?rb16
      case yb16 =>
        intro w hSw
        try dsimp only at hSw
        first | (go_simp; done) | (go_simp; with_reducible rfl)
      try simp only [Act.put, List.setIfInBounds_toArray, List.set_cons_zero, List.set_cons_succ]
      refine wpAnyH_take (i := 17) (oi := ⟨some 53, _, _, _, _, _⟩) (v := ?vb17) rfl (by kernel_rfl) (by kernel_rfl) (by kernel_rfl) (fun _ _ _ h => h) (Or.inl ⟨by kernel_rfl, ?yb17⟩) (by assumption) ?rb17
      case yb17 =>
        intro w hSw
        try dsimp only at hSw
        first | (go_simp; done) | (go_simp; with_reducible rfl)
      try simp only [Act.put, List.setIfInBounds_toArray, List.set_cons_zero, List.set_cons_succ]
      refine wpAnyH_take (i := 18) (oi := ⟨some 54, _, _, _, _, _⟩) (v := ?vb18) rfl (by kernel_rfl) (by kernel_rfl) (by kernel_rfl) (fun _ _ _ h => h) (Or.inl ⟨by kernel_rfl, ?yb18⟩) (by assumption) ?rb18
      case yb18 =>
        intro w hSw
        try dsimp only at hSw
        first | (go_simp; done) | (go_simp; with_reducible rfl)
      try simp only [Act.put, List.setIfInBounds_toArray, List.set_cons_zero, List.set_cons_succ]
      refine wpAnyH_ready (rs := [19]) (by kernel_rfl) (by simp) ?_
      refine AllReadyH.cons (i := 19) (o := ⟨some 55, _, _, _, _, _⟩) rfl (fun K hK => ?_) AllReadyH.nil
      go_simp
      go_at_call 29
      refine (O3.out _).mono ?_
      rintro e wp ⟨rfl, hb⟩
      go_wp2_with fail
      refine hK.out _ _ ?_ (fun hHeld => ?_)
      · exact kept_five (by assumption) hb
      clear hK K
      try simp only [Act.put, List.setIfInBounds_toArray, List.set_cons_zero, List.set_cons_succ]
      refine wpAnyH_take (i := 20) (oi := ⟨some 56, _, _, _, _, _⟩) (v := ?vb20) rfl (by kernel_rfl) (by kernel_rfl) (by kernel_rfl) (fun _ _ _ h => h) (Or.inl ⟨by kernel_rfl, ?yb20⟩) (by assumption) ?rb20
      case yb20 =>
        intro w hSw
        try dsimp only at hSw
        first | (go_simp; done) | (go_simp; with_reducible rfl)
      try simp only [Act.put, List.setIfInBounds_toArray, List.set_cons_zero, List.set_cons_succ]
      refine wpAnyH_take (i := 21) (oi := ⟨some 57, _, _, _, _, _⟩) (v := ?vb21) rfl (by kernel_rfl) (by kernel_rfl) (by kernel_rfl) (fun _ _ _ h => h) (Or.inl ⟨by kernel_rfl, ?yb21⟩) (by assumption) ?rb21
      case yb21 =>
        intro w hSw
        try dsimp only at hSw
        first | (go_simp; done) | (go_simp; with_reducible rfl)
      try simp only [Act.put, List.setIfInBounds_toArray, List.set_cons_zero, List.set_cons_succ]
      refine wpAnyH_take (i := 22) (oi := ⟨some 58, _, _, _, _, _⟩) (v := ?vb22) rfl (by kernel_rfl) (by kernel_rfl) (by kernel_rfl) (fun _ _ _ h => h) (Or.inl ⟨by kernel_rfl, ?yb22⟩) (by assumption) ?rb22
      case yb22 =>
        intro w hSw
        try dsimp only at hSw
        first | (go_simp; done) | (go_simp; with_reducible rfl)
      try simp only [Act.put, List.setIfInBounds_toArray, List.set_cons_zero, List.set_cons_succ]
      refine wpAnyH_take (i := 23) (oi := ⟨some 59, _, _, _, _, _⟩) (v := ?vb23) rfl (by kernel_rfl) (by kernel_rfl) (by kernel_rfl) (fun _ _ _ h => h) (Or.inl ⟨by kernel_rfl, ?yb23⟩) (by assumption) ?rb23
      case yb23 =>
        intro w hSw
        try dsimp only at hSw
        first | (go_simp; done) | (go_simp; with_reducible rfl)
      try simp only [Act.put, List.setIfInBounds_toArray, List.set_cons_zero, List.set_cons_succ]
      refine wpAnyH_take (i := 24) (oi := ⟨some 60, _, _, _, _, _⟩) (v := ?vb24) rfl (by kernel_rfl) (by kernel_rfl) (by kernel_rfl) (fun _ _ _ h => h) (Or.inl ⟨by kernel_rfl, ?yb24⟩) (by assumption) ?rb24
      case yb24 =>
        intro w hSw
        try dsimp only at hSw
        first | (go_simp; done) | (go_simp; with_reducible rfl)
      try simp only [Act.put, List.setIfInBounds_toArray, List.set_cons_zero, List.set_cons_succ]
      refine wpAnyH_take (i := 25) (oi := ⟨some 61, _, _, _, _, _⟩) (v := ?vb25) rfl (by kernel_rfl) (by kernel_rfl) (by kernel_rfl) (fun _ _ _ h => h) (Or.inl ⟨by kernel_rfl, ?yb25⟩) (by assumption) ?rb25
      case yb25 =>
        intro w hSw
        try dsimp only at hSw
        first | (go_simp; done) | (go_simp; with_reducible rfl)
      try simp only [Act.put, List.setIfInBounds_toArray, List.set_cons_zero, List.set_cons_succ]
      refine wpAnyH_take (i := 26) (oi := ⟨some 62, _, _, _, _, _⟩) (v := ?vb26) rfl (by kernel_rfl) (by kernel_rfl) (by kernel_rfl) (fun _ _ _ h => h) (Or.inl ⟨by kernel_rfl, ?yb26⟩) (by assumption) ?rb26
      case yb26 =>
        intro w hSw
        try dsimp only at hSw
        first | (go_simp; done) | (go_simp; with_reducible rfl)
      try simp only [Act.put, List.setIfInBounds_toArray, List.set_cons_zero, List.set_cons_succ]
      refine wpAnyH_ready (rs := [27]) (by kernel_rfl) (by simp) ?_
      refine AllReadyH.cons (i := 27) (o := ⟨some 63, _, _, _, _, _⟩) rfl (fun K hK => ?_) AllReadyH.nil
      go_simp
      go_at_call 29
      refine (O4.out _).mono ?_
      rintro e wp ⟨rfl, hb⟩
      go_wp2_with fail
      refine hK.out _ _ ?_ (fun hHeld => ?_)
      · exact kept_five (by assumption) hb
      clear hK K
      try simp only [Act.put, List.setIfInBounds_toArray, List.set_cons_zero, List.set_cons_succ]
      refine wpAnyH_take (i := 28) (oi := ⟨some 64, _, _, _, _, _⟩) (v := ?vb28) rfl (by kernel_rfl) (by kernel_rfl) (by kernel_rfl) (fun _ _ _ h => h) (Or.inl ⟨by kernel_rfl, ?yb28⟩) (by assumption) ?rb28
      case yb28 =>
        intro w hSw
        try dsimp only at hSw
        first | (go_simp; done) | (go_simp; with_reducible rfl)
      try simp only [Act.put, List.setIfInBounds_toArray, List.set_cons_zero, List.set_cons_succ]
      refine wpAnyH_take (i := 29) (oi := ⟨some 65, _, _, _, _, _⟩) (v := ?vb29) rfl (by kernel_rfl) (by kernel_rfl) (by kernel_rfl) (fun _ _ _ h => h) (Or.inl ⟨by kernel_rfl, ?yb29⟩) (by assumption) ?rb29
      case yb29 =>
        intro w hSw
        try dsimp only at hSw
        first | (go_simp; done) | (go_simp; with_reducible rfl)
      try simp only [Act.put, List.setIfInBounds_toArray, List.set_cons_zero, List.set_cons_succ]
      refine wpAnyH_take (i := 30) (oi := ⟨some 66, _, _, _, _, _⟩) (v := ?vb30) rfl (by kernel_rfl) (by kernel_rfl) (by kernel_rfl) (fun _ _ _ h => h) (Or.inl ⟨by kernel_rfl, ?yb30⟩) (by assumption) ?rb30
      case yb30 =>
        intro w hSw
        try dsimp only at hSw
        first | (go_simp; done) | (go_simp; with_reducible rfl)
      try simp only [Act.put, List.setIfInBounds_toArray, List.set_cons_zero, List.set_cons_succ]
      refine wpAnyH_take (i := 31) (oi := ⟨some 67, _, _, _, _, _⟩) (v := ?vb31) rfl (by kernel_rfl) (by kernel_rfl) (by kernel_rfl) (fun _ _ _ h => h) (Or.inl ⟨by kernel_rfl, ?yb31⟩) (by assumption) ?rb31
      case yb31 =>
        intro w hSw
        try dsimp only at hSw
        first | (go_simp; done) | (go_simp; with_reducible rfl)
      try simp only [Act.put, List.setIfInBounds_toArray, List.set_cons_zero, List.set_cons_succ]
      refine wpAnyH_take (i := 32) (oi := ⟨some 68, _, _, _, _, _⟩) (v := ?vb32) rfl (by kernel_rfl) (by kernel_rfl) (by kernel_rfl) (fun _ _ _ h => h) (Or.inl ⟨by kernel_rfl, ?yb32⟩) (by assumption) ?rb32
      case yb32 =>
        intro w hSw
        try dsimp only at hSw
        first | (go_simp; done) | (go_simp; with_reducible rfl)
      try simp only [Act.put, List.setIfInBounds_toArray, List.set_cons_zero, List.set_cons_succ]
      refine wpAnyH_take (i := 33) (oi := ⟨some 69, _, _, _, _, _⟩) (v := ?vb33) rfl (by kernel_rfl) (by kernel_rfl) (by kernel_rfl) (fun _ _ _ h => h) (Or.inl ⟨by kernel_rfl, ?yb33⟩) (by assumption) ?rb33
      case yb33 =>
        intro w hSw
        try dsimp only at hSw
        first | (go_simp; done) | (go_simp; with_reducible rfl)
      try simp only [Act.put, List.setIfInBounds_toArray, List.set_cons_zero, List.set_cons_succ]
      refine wpAnyH_take (i := 37) (oi := ⟨some 73, _, _, _, _, _⟩) (v := ?vb37) rfl (by kernel_rfl) (by kernel_rfl) (by kernel_rfl) (fun _ _ _ h => h) (Or.inl ⟨by kernel_rfl, ?yb37⟩) (by assumption) ?rb37
      case yb37 =>
        intro w hSw
        try dsimp only at hSw
        first | (go_simp; done) | (go_simp; with_reducible rfl)
      try simp only [Act.put, List.setIfInBounds_toArray, List.set_cons_zero, List.set_cons_succ]
      refine wpAnyH_ready (rs := [34]) (by kernel_rfl) (by simp) ?_
      refine AllReadyH.cons (i := 34) (o := ⟨some 70, _, _, _, _, _⟩) rfl (fun K hK => ?_) AllReadyH.nil
      go_simp
      go_at_call 18
      refine (PL.out _).mono ?_
      rintro e wp ⟨rfl, hb⟩
      go_wp2_with fail
      refine hK.out _ _ ?_ (fun hHeld => ?_)
      · exact kept_five (by assumption) hb
      clear hK K
      try simp only [Act.put, List.setIfInBounds_toArray, List.set_cons_zero, List.set_cons_succ]
      refine wpAnyH_take (i := 35) (oi := ⟨some 71, _, _, _, _, _⟩) (v := ?vb35) rfl (by kernel_rfl) (by kernel_rfl) (by kernel_rfl) (fun _ _ _ h => h) (Or.inl ⟨by kernel_rfl, ?yb35⟩) (by assumption) ?rb35
      case yb35 =>
        intro w hSw
        try dsimp only at hSw
        first | (go_simp; done) | (go_simp; with_reducible rfl)
      try simp only [Act.put, List.setIfInBounds_toArray, List.set_cons_zero, List.set_cons_succ]
      refine wpAnyH_ready (rs := [36]) (by kernel_rfl) (by simp) ?_
      refine AllReadyH.cons (i := 36) (o := ⟨some 72, _, _, _, _, _⟩) rfl (fun K hK => ?_) AllReadyH.nil
      go_simp
      go_at_call 29
      refine (O5.out _).mono ?_
      rintro e wp ⟨rfl, hb⟩
      go_wp2_with fail
      refine hK.out _ _ ?_ (fun hHeld => ?_)
      · exact kept_five (by assumption) hb
      clear hK K
      try simp only [Act.put, List.setIfInBounds_toArray, List.set_cons_zero, List.set_cons_succ]
      refine wpAnyH_take (i := 38) (oi := ⟨some 74, _, _, _, _, _⟩) (v := ?vb38) rfl (by kernel_rfl) (by kernel_rfl) (by kernel_rfl) (fun _ _ _ h => h) (Or.inl ⟨by kernel_rfl, ?yb38⟩) (by assumption) ?rb38
      case yb38 =>
        intro w hSw
        try dsimp only at hSw
        first | (go_simp; done) | (go_simp; with_reducible rfl)
      try simp only [Act.put, List.setIfInBounds_toArray, List.set_cons_zero, List.set_cons_succ]
      refine wpAnyH_take (i := 39) (oi := ⟨some 75, _, _, _, _, _⟩) (v := ?vb39) rfl (by kernel_rfl) (by kernel_rfl) (by kernel_rfl) (fun _ _ _ h => h) (Or.inl ⟨by kernel_rfl, ?yb39⟩) (by assumption) ?rb39
      case yb39 =>
        intro w hSw
        try dsimp only at hSw
        first | (go_simp; done) | (go_simp; with_reducible rfl)
      try simp only [Act.put, List.setIfInBounds_toArray, List.set_cons_zero, List.set_cons_succ]
      refine wpAnyH_take (i := 40) (oi := ⟨some 76, _, _, _, _, _⟩) (v := ?vb40) rfl (by kernel_rfl) (by kernel_rfl) (by kernel_rfl) (fun _ _ _ h => h) (Or.inl ⟨by kernel_rfl, ?yb40⟩) (by assumption) ?rb40
      case yb40 =>
        intro w hSw
        try dsimp only at hSw
        first | (go_simp; done) | (go_simp; with_reducible rfl)
      try simp only [Act.put, List.setIfInBounds_toArray, List.set_cons_zero, List.set_cons_succ]
      refine wpAnyH_take (i := 41) (oi := ⟨some 77, _, _, _, _, _⟩) (v := ?vb41) rfl (by kernel_rfl) (by kernel_rfl) (by kernel_rfl) (fun _ _ _ h => h) (Or.inl ⟨by kernel_rfl, ?yb41⟩) (by assumption) ?rb41
      case yb41 =>
        intro w hSw
        try dsimp only at hSw
        first | (go_simp; done) | (go_simp; with_reducible rfl)
      try simp only [Act.put, List.setIfInBounds_toArray, List.set_cons_zero, List.set_cons_succ]
      refine wpAnyH_take (i := 42) (oi := ⟨some 78, _, _, _, _, _⟩) (v := ?vb42) rfl (by kernel_rfl) (by kernel_rfl) (by kernel_rfl) (fun _ _ _ h => h) (Or.inl ⟨by kernel_rfl, ?yb42⟩) (by assumption) ?rb42
      case yb42 =>
        intro w hSw
        try dsimp only at hSw
        first | (go_simp; done) | (go_simp; with_reducible rfl)
      try simp only [Act.put, List.setIfInBounds_toArray, List.set_cons_zero, List.set_cons_succ]
      refine wpAnyH_take (i := 43) (oi := ⟨some 79, _, _, _, _, _⟩) (v := ?vb43) rfl (by kernel_rfl) (by kernel_rfl) (by kernel_rfl) (fun _ _ _ h => h) (Or.inl ⟨by kernel_rfl, ?yb43⟩) (by assumption) ?rb43
      case yb43 =>
        intro w hSw
        try dsimp only at hSw
        first | (go_simp; done) | (go_simp; with_reducible rfl)
      try simp only [Act.put, List.setIfInBounds_toArray, List.set_cons_zero, List.set_cons_succ]
      refine wpAnyH_take (i := 44) (oi := ⟨some 80, _, _, _, _, _⟩) (v := ?vb44) rfl (by kernel_rfl) (by kernel_rfl) (by kernel_rfl) (fun _ _ _ h => h) (Or.inl ⟨by kernel_rfl, ?yb44⟩) (by assumption) ?rb44
      case yb44 =>
        intro w hSw
        try dsimp only at hSw
        first | (go_simp; done) | (go_simp; with_reducible rfl)
      try simp only [Act.put, List.setIfInBounds_toArray, List.set_cons_zero, List.set_cons_succ]
      refine wpAnyH_take (i := 45) (oi := ⟨some 81, _, _, _, _, _⟩) (v := ?vb45) rfl (by kernel_rfl) (by kernel_rfl) (by kernel_rfl) (fun _ _ _ h => h) (Or.inl ⟨by kernel_rfl, ?yb45⟩) (by assumption) ?rb45
      case yb45 =>
        intro w hSw
        try dsimp only at hSw
        first | (go_simp; done) | (go_simp; with_reducible rfl)
      try simp only [Act.put, List.setIfInBounds_toArray, List.set_cons_zero, List.set_cons_succ]
      refine wpAnyH_take (i := 47) (oi := ⟨some 83, _, _, _, _, _⟩) (v := ?vb47) rfl (by kernel_rfl) (by kernel_rfl) (by kernel_rfl) (fun _ _ _ h => h) (Or.inl ⟨by kernel_rfl, ?yb47⟩) (by assumption) ?rb47
      case yb47 =>
        intro w hSw
        try dsimp only at hSw
        first | (go_simp; done) | (go_simp; with_reducible rfl)
      try simp only [Act.put, List.setIfInBounds_toArray, List.set_cons_zero, List.set_cons_succ]
      refine wpAnyH_ready (rs := [46]) (by kernel_rfl) (by simp) ?_
      refine AllReadyH.cons (i := 46) (o := ⟨some 82, _, _, _, _, _⟩) rfl (fun K hK => ?_) AllReadyH.nil
      go_simp
      go_at_call 29
      refine (O6.out _).mono ?_
      rintro e wp ⟨rfl, hb⟩
      go_wp2_with fail
      refine hK.out _ _ ?_ (fun hHeld => ?_)
      · exact kept_five (by assumption) hb
      clear hK K
      try simp only [Act.put, List.setIfInBounds_toArray, List.set_cons_zero, List.set_cons_succ]
      refine wpAnyH_take (i := 48) (oi := ⟨some 84, _, _, _, _, _⟩) (v := ?vb48) rfl (by kernel_rfl) (by kernel_rfl) (by kernel_rfl) (fun _ _ _ h => h) (Or.inl ⟨by kernel_rfl, ?yb48⟩) (by assumption) ?rb48
      case yb48 =>
        intro w hSw
        try dsimp only at hSw
        first | (go_simp; done) | (go_simp; with_reducible rfl)
      try simp only [Act.put, List.setIfInBounds_toArray, List.set_cons_zero, List.set_cons_succ]
      refine wpAnyH_take (i := 49) (oi := ⟨some 85, _, _, _, _, _⟩) (v := ?vb49) rfl (by kernel_rfl) (by kernel_rfl) (by kernel_rfl) (fun _ _ _ h => h) (Or.inl ⟨by kernel_rfl, ?yb49⟩) (by assumption) ?rb49
      case yb49 =>
        intro w hSw
        try dsimp only at hSw
        first | (go_simp; done) | (go_simp; with_reducible rfl)
      try simp only [Act.put, List.setIfInBounds_toArray, List.set_cons_zero, List.set_cons_succ]
      refine wpAnyH_take (i := 50) (oi := ⟨some 86, _, _, _, _, _⟩) (v := ?vb50) rfl (by kernel_rfl) (by kernel_rfl) (by kernel_rfl) (fun _ _ _ h => h) (Or.inl ⟨by kernel_rfl, ?yb50⟩) (by assumption) ?rb50
      case yb50 =>
        intro w hSw
        try dsimp only at hSw
        first | (go_simp; done) | (go_simp; with_reducible rfl)
      try simp only [Act.put, List.setIfInBounds_toArray, List.set_cons_zero, List.set_cons_succ]
      refine wpAnyH_take (i := 51) (oi := ⟨some 87, _, _, _, _, _⟩) (v := ?vb51) rfl (by kernel_rfl) (by kernel_rfl) (by kernel_rfl) (fun _ _ _ h => h) (Or.inl ⟨by kernel_rfl, ?yb51⟩) (by assumption) ?rb51
      case yb51 =>
        intro w hSw
        try dsimp only at hSw
        first | (go_simp; done) | (go_simp; with_reducible rfl)
      try simp only [Act.put, List.setIfInBounds_toArray, List.set_cons_zero, List.set_cons_succ]
      refine wpAnyH_take (i := 52) (oi := ⟨some 88, _, _, _, _, _⟩) (v := ?vb52) rfl (by kernel_rfl) (by kernel_rfl) (by kernel_rfl) (fun _ _ _ h => h) (Or.inl ⟨by kernel_rfl, ?yb52⟩) (by assumption) ?rb52
      case yb52 =>
        intro w hSw
        try dsimp only at hSw
        first | (go_simp; done) | (go_simp; with_reducible rfl)
      try simp only [Act.put, List.setIfInBounds_toArray, List.set_cons_zero, List.set_cons_succ]
      refine wpAnyH_take (i := 53) (oi := ⟨some 89, _, _, _, _, _⟩) (v := ?vb53) rfl (by kernel_rfl) (by kernel_rfl) (by kernel_rfl) (fun _ _ _ h => h) (Or.inl ⟨by kernel_rfl, ?yb53⟩) (by assumption) ?rb53
      case yb53 =>
        intro w hSw
        try dsimp only at hSw
        first | (go_simp; done) | (go_simp; with_reducible rfl)
      try simp only [Act.put, List.setIfInBounds_toArray, List.set_cons_zero, List.set_cons_succ]
      refine wpAnyH_take (i := 54) (oi := ⟨some 90, _, _, _, _, _⟩) (v := ?vb54) rfl (by kernel_rfl) (by kernel_rfl) (by kernel_rfl) (fun _ _ _ h => h) (Or.inl ⟨by kernel_rfl, ?yb54⟩) (by assumption) ?rb54
      case yb54 =>
        intro w hSw
        try dsimp only at hSw
        first | (go_simp; done) | (go_simp; with_reducible rfl)
      try simp only [Act.put, List.setIfInBounds_toArray, List.set_cons_zero, List.set_cons_succ]
      refine wpAnyH_take (i := 55) (oi := ⟨some 91, _, _, _, _, _⟩) (v := ?vb55) rfl (by kernel_rfl) (by kernel_rfl) (by kernel_rfl) (fun _ _ _ h => h) (Or.inl ⟨by kernel_rfl, ?yb55⟩) (by assumption) ?rb55
      case yb55 =>
        intro w hSw
        try dsimp only at hSw
        first | (go_simp; done) | (go_simp; with_reducible rfl)
      try simp only [Act.put, List.setIfInBounds_toArray, List.set_cons_zero, List.set_cons_succ]
      refine wpAnyH_take (i := 57) (oi := ⟨some 93, _, _, _, _, _⟩) (v := ?vb57) rfl (by kernel_rfl) (by kernel_rfl) (by kernel_rfl) (fun _ _ _ h => h) (Or.inl ⟨by kernel_rfl, ?yb57⟩) (by assumption) ?rb57
      case yb57 =>
        intro w hSw
        try dsimp only at hSw
        first | (go_simp; done) | (go_simp; with_reducible rfl)
      try simp only [Act.put, List.setIfInBounds_toArray, List.set_cons_zero, List.set_cons_succ]
      refine wpAnyH_ready (rs := [56]) (by kernel_rfl) (by simp) ?_
      refine AllReadyH.cons (i := 56) (o := ⟨some 92, _, _, _, _, _⟩) rfl (fun K hK => ?_) AllReadyH.nil
      go_simp
      go_at_call 29
      refine (O7.out _).mono ?_
      rintro e wp ⟨rfl, hb⟩
      go_wp2_with fail
      refine hK.out _ _ ?_ (fun hHeld => ?_)
      · exact kept_five (by assumption) hb
      clear hK K
      try simp only [Act.put, List.setIfInBounds_toArray, List.set_cons_zero, List.set_cons_succ]
      refine wpAnyH_take (i := 58) (oi := ⟨some 94, _, _, _, _, _⟩) (v := ?vb58) rfl (by kernel_rfl) (by kernel_rfl) (by kernel_rfl) (fun _ _ _ h => h) (Or.inl ⟨by kernel_rfl, ?yb58⟩) (by assumption) ?rb58
      case yb58 =>
        intro w hSw
        try dsimp only at hSw
        first | (go_simp; done) | (go_simp; with_reducible rfl)
      try simp only [Act.put, List.setIfInBounds_toArray, List.set_cons_zero, List.set_cons_succ]
      refine wpAnyH_take (i := 59) (oi := ⟨some 95, _, _, _, _, _⟩) (v := ?vb59) rfl (by kernel_rfl) (by kernel_rfl) (by kernel_rfl) (fun _ _ _ h => h) (Or.inl ⟨by kernel_rfl, ?yb59⟩) (by assumption) ?rb59
      case yb59 =>
        intro w hSw
        try dsimp only at hSw
        first | (go_simp; done) | (go_simp; with_reducible rfl)
      try simp only [Act.put, List.setIfInBounds_toArray, List.set_cons_zero, List.set_cons_succ]
      refine wpAnyH_take (i := 60) (oi := ⟨some 4, _, _, _, _, _⟩) (v := ?vb60) rfl (by kernel_rfl) (by kernel_rfl) (by kernel_rfl) (fun _ _ _ h => h) (Or.inl ⟨by kernel_rfl, ?yb60⟩) (by assumption) ?rb60
      case yb60 =>
        intro w hSw
        try dsimp only at hSw
        first | (go_simp; done) | (go_simp; with_reducible rfl)
      try simp only [Act.put, List.setIfInBounds_toArray, List.set_cons_zero, List.set_cons_succ]
      refine wpAnyH_done (by kernel_rfl) ?_ _
      obtain ⟨_, _, _, _, _, zz⟩ := hHeld
      have HZ2 := Lib.hid zz
      clear zz
      go_wp2_with fail
      go_ret
      exact ⟨rfl, HZ2.out⟩
    | false =>
      have hc : cmpS s t = 1 := by unfold cmpS lessS sameS; rw [h1, h2]; rfl
      rw [hc] at O5 O6 O7
      rw [h1, h2] at gt
      clear hc h2
      go_enter Tryd.func9, Tryd.ntmps9
      go_wp2_with fail
      refine (AW.out _ HV.out).mono ?_
      rintro e w1 ⟨rfl, hb1⟩
      go_wp2_with fail
      refine (PS.out _).mono ?_
      rintro e w2 ⟨rfl, hb2⟩
      go_wp2_with fail
      obtain ⟨B, hB⟩ : ∃ B, B = w2.heap.size := ⟨_, rfl⟩
      obtain ⟨w3, h3⟩ : ∃ w3, w3 = ((w2.alloc (.cells #[.string s] 62)).alloc (.cells #[.string t] 53)).alloc (.cells #[.string s, .string ⟨#[104, 116, 116, 112, 58, 47, 47, 119, 119, 119, 46, 119, 51, 46, 111, 114, 103, 47, 50, 48, 48, 49, 47, 88, 77, 76, 83, 99, 104, 101, 109, 97, 35, 115, 116, 114, 105, 110, 103]⟩, .string ⟨#[]⟩] 35) := ⟨_, rfl⟩
      have HZ : Hid (Below w.heap.size w w3) := Lib.hid (by rw [h3]; have h12 := hb1.trans (hb2.mono hb1.size); have hz := h12.size; exact ((h12.alloc hz _).alloc (by simp; omega) _).alloc (by simp; omega) _)
      have p0 : w3.drew.cell? ⟨B, 0, none⟩ = some (.string s) := by rw [h3, hB]; simp [go_sem]
      have p1 : w3.drew.cell? ⟨B + 1, 0, none⟩ = some (.string t) := by rw [h3, hB]; simp [go_sem]
      have p2 : w3.drew.cell? ⟨B + 2, 0, none⟩ = some (.string s) := by rw [h3, hB]; simp [go_sem]
      have p3 : w3.drew.cell? ⟨B + 2, 1, none⟩ = some (.string ⟨#[104, 116, 116, 112, 58, 47, 47, 119, 119, 119, 46, 119, 51, 46, 111, 114, 103, 47, 50, 48, 48, 49, 47, 88, 77, 76, 83, 99, 104, 101, 109, 97, 35, 115, 116, 114, 105, 110, 103]⟩) := by rw [h3, hB]; simp [go_sem]
      have p4 : w3.drew.cell? ⟨B + 2, 2, none⟩ = some (.string ⟨#[]⟩) := by rw [h3, hB]; simp [go_sem]
      rw [← h3, ← hB]
      clear h3 hB hb1 hb2
      refine wp_region_held_drew (S := fun w' => w'.cell? ⟨B, 0, none⟩ = some (.string s) ∧ w'.cell? ⟨B + 1, 0, none⟩ = some (.string t) ∧ w'.cell? ⟨B + 2, 0, none⟩ = some (.string s) ∧ w'.cell? ⟨B + 2, 1, none⟩ = some (.string ⟨#[104, 116, 116, 112, 58, 47, 47, 119, 119, 119, 46, 119, 51, 46, 111, 114, 103, 47, 50, 48, 48, 49, 47, 88, 77, 76, 83, 99, 104, 101, 109, 97, 35, 115, 116, 114, 105, 110, 103]⟩) ∧ w'.cell? ⟨B + 2, 2, none⟩ = some (.string ⟨#[]⟩) ∧ Below w.heap.size w w') (by kernel_rfl) ?hSc0 (fun hHeld => ?_)
      case hSc0 => exact ⟨p0, p1, p2, p3, p4, HZ.out.drew⟩
      refine wpAnyH_take (i := 0) (oi := ⟨some 36, _, _, _, _, _⟩) (v := ?vc0) rfl (by kernel_rfl) (by kernel_rfl) (by kernel_rfl) (fun _ _ _ h => h) (Or.inl ⟨by kernel_rfl, ?yc0⟩) (by assumption) ?rc0
      case yc0 =>
        intro w hSw
        try dsimp only at hSw
        first | (go_simp; done) | (go_simp; with_reducible rfl)
      try simp only [Act.put, List.setIfInBounds_toArray, List.set_cons_zero, List.set_cons_succ]
      refine wpAnyH_take (i := 1) (oi := ⟨some 37, _, _, _, _, _⟩) (v := ?vc1) rfl (by kernel_rfl) (by kernel_rfl) (by kernel_rfl) (fun _ _ _ h => h) (Or.inl ⟨by kernel_rfl, ?yc1⟩) (by assumption) ?rc1
      case yc1 =>
        intro w hSw
        try dsimp only at hSw
        first | (go_simp; done) | (go_simp; with_reducible rfl)
      try simp only [Act.put, List.setIfInBounds_toArray, List.set_cons_zero, List.set_cons_succ]
      refine wpAnyH_take (i := 2) (oi := ⟨some 38, _, _, _, _, _⟩) (v := ?vc2) rfl (by kernel_rfl) (by kernel_rfl) (by kernel_rfl) (fun _ _ _ h => h) (Or.inl ⟨by kernel_rfl, ?yc2⟩) (by assumption) ?rc2
      case yc2 =>
        intro w hSw
        try dsimp only at hSw
        first | (go_simp; done) | (go_simp; with_reducible rfl)
      try simp only [Act.put, List.setIfInBounds_toArray, List.set_cons_zero, List.set_cons_succ]
      refine wpAnyH_take (i := 3) (oi := ⟨some 39, _, _, _, _, _⟩) (v := ?vc3) rfl (by kernel_rfl) (by kernel_rfl) (by kernel_rfl) (fun _ _ _ h => h) (Or.inl ⟨by kernel_rfl, ?yc3⟩) (by assumption) ?rc3
      case yc3 =>
        intro w hSw
        try dsimp only at hSw
        first | (go_simp; done) | (go_simp; with_reducible rfl)
      try simp only [Act.put, List.setIfInBounds_toArray, List.set_cons_zero, List.set_cons_succ]
      refine wpAnyH_ready (rs := [4]) (by kernel_rfl) (by simp) ?_
      refine AllReadyH.cons (i := 4) (o := ⟨some 40, _, _, _, _, _⟩) rfl (fun K hK => ?_) AllReadyH.nil
      go_simp
      go_at_call 29
      refine (O1.out _).mono ?_
      rintro e wp ⟨rfl, hb⟩
      go_wp2_with fail
      refine hK.out _ _ ?_ (fun hHeld => ?_)
      · exact kept_five (by assumption) hb
      clear hK K
      try simp only [Act.put, List.setIfInBounds_toArray, List.set_cons_zero, List.set_cons_succ]
      refine wpAnyH_take (i := 5) (oi := ⟨some 41, _, _, _, _, _⟩) (v := ?vc5) rfl (by kernel_rfl) (by kernel_rfl) (by kernel_rfl) (fun _ _ _ h => h) (Or.inl ⟨by kernel_rfl, ?yc5⟩) (by assumption) ?rc5
      case yc5 =>
        intro w hSw
        try dsimp only at hSw
        first | (go_simp; done) | (go_simp; with_reducible rfl)
      try simp only [Act.put, List.setIfInBounds_toArray, List.set_cons_zero, List.set_cons_succ]
      refine wpAnyH_take (i := 6) (oi := ⟨some 42, _, _, _, _, _⟩) (v := ?vc6) rfl (by kernel_rfl) (by kernel_rfl) (by kernel_rfl) (fun _ _ _ h => h) (Or.inl ⟨by kernel_rfl, ?yc6⟩) (by assumption) ?rc6
      case yc6 =>
        intro w hSw
        try dsimp only at hSw
        first | (go_simp; done) | (go_simp; with_reducible rfl)
      try simp only [Act.put, List.setIfInBounds_toArray, List.set_cons_zero, List.set_cons_succ]
      refine wpAnyH_take (i := 7) (oi := ⟨some 43, _, _, _, _, _⟩) (v := ?vc7) rfl (by kernel_rfl) (by kernel_rfl) (by kernel_rfl) (fun _ _ _ h => h) (Or.inl ⟨by kernel_rfl, ?yc7⟩) (by assumption) ?rc7
      case yc7 =>
        intro w hSw
        try dsimp only at hSw
        first | (go_simp; done) | (go_simp; with_reducible rfl)
      try simp only [Act.put, List.setIfInBounds_toArray, List.set_cons_zero, List.set_cons_succ]
      refine wpAnyH_take (i := 8) (oi := ⟨some 44, _, _, _, _, _⟩) (v := ?vc8) rfl (by kernel_rfl) (by kernel_rfl) (by kernel_rfl) (fun _ _ _ h => h) (Or.inl ⟨by kernel_rfl, ?yc8⟩) (by assumption) ?rc8
      case yc8 =>
        intro w hSw
        try dsimp only at hSw
        first | (go_simp; done) | (go_simp; with_reducible rfl)
      try simp only [Act.put, List.setIfInBounds_toArray, List.set_cons_zero, List.set_cons_succ]
      refine wpAnyH_take (i := 9) (oi := ⟨some 45, _, _, _, _, _⟩) (v := ?vc9) rfl (by kernel_rfl) (by kernel_rfl) (by kernel_rfl) (fun _ _ _ h => h) (Or.inl ⟨by kernel_rfl, ?yc9⟩) (by assumption) ?rc9
      case yc9 =>
        intro w hSw
        try dsimp only at hSw
        first | (go_simp; done) | (go_simp; with_reducible rfl)
      try simp only [Act.put, List.setIfInBounds_toArray, List.set_cons_zero, List.set_cons_succ]
      refine wpAnyH_take (i := 10) (oi := ⟨some 46, _, _, _, _, _⟩) (v := ?vc10) rfl (by kernel_rfl) (by kernel_rfl) (by kernel_rfl) (fun _ _ _ h => h) (Or.inl ⟨by kernel_rfl, ?yc10⟩) (by assumption) ?rc10
      case yc10 =>
        intro w hSw
        try dsimp only at hSw
        first | (go_simp; done) | (go_simp; with_reducible rfl)
      try simp only [Act.put, List.setIfInBounds_toArray, List.set_cons_zero, List.set_cons_succ]
      refine wpAnyH_ready (rs := [11]) (by kernel_rfl) (by simp) ?_
      refine AllReadyH.cons (i := 11) (o := ⟨some 47, _, _, _, _, _⟩) rfl (fun K hK => ?_) AllReadyH.nil
      go_simp
      go_at_call 29
      refine (O2.out _).mono ?_
      rintro e wp ⟨rfl, hb⟩
      go_wp2_with fail
      refine hK.out _ _ ?_ (fun hHeld => ?_)
      · exact kept_five (by assumption) hb
      clear hK K
      try simp only [Act.put, List.setIfInBounds_toArray, List.set_cons_zero, List.set_cons_succ]
      refine wpAnyH_take (i := 12) (oi := ⟨some 48, _, _, _, _, _⟩) (v := ?vc12) rfl (by kernel_rfl) (by kernel_rfl) (by kernel_rfl) (fun _ _ _ h => h) (Or.inl ⟨by kernel_rfl, ?yc12⟩) (by assumption) ?rc12
      case yc12 =>
        intro w hSw
        try dsimp only at hSw
        first | (go_simp; done) | (go_simp; with_reducible rfl)
      try simp only [Act.put, List.setIfInBounds_toArray, List.set_cons_zero, List.set_cons_succ]
      refine wpAnyH_take (i := 13) (oi := ⟨some 49, _, _, _, _, _⟩) (v := ?vc13) rfl (by kernel_rfl) (by kernel_rfl) (by kernel_rfl) (fun _ _ _ h => h) (Or.inl ⟨by kernel_rfl, ?yc13⟩) (by assumption) ?rc13
      case yc13 =>
        intro w hSw
        try dsimp only at hSw
        first | (go_simp; done) | (go_simp; with_reducible rfl)
      try simp only [Act.put, List.setIfInBounds_toArray, List.set_cons_zero, List.set_cons_succ]
      refine wpAnyH_take (i := 14) (oi := ⟨some 50, _, _, _, _, _⟩) (v := ?vc14) rfl (by kernel_rfl) (by kernel_rfl) (by kernel_rfl) (fun _ _ _ h => h) (Or.inl ⟨by kernel_rfl, ?yc14⟩) (by assumption) ?rc14
      case yc14 =>
        intro w hSw
        try dsimp only at hSw
        first | (go_simp; done) | (go_simp; with_reducible rfl)
      try simp only [Act.put, List.setIfInBounds_toArray, List.set_cons_zero, List.set_cons_succ]
      refine wpAnyH_take (i := 15) (oi := ⟨some 51, _, _, _, _, _⟩) (v := ?vc15) rfl (by kernel_rfl) (by kernel_rfl) (by kernel_rfl) (fun _ _ _ h => h) (Or.inl ⟨by kernel_rfl, ?yc15⟩) (by assumption) ?rc15
      case yc15 =>
        intro w hSw
        try dsimp only at hSw
        first | (go_simp; done) | (go_simp; with_reducible rfl)
      try simp only [Act.put, List.setIfInBounds_toArray, List.set_cons_zero, List.set_cons_succ]
      refine wpAnyH_take (i := 16) (oi := ⟨some 52, _, _, _, _, _⟩) (v := ?vc16) rfl (by kernel_rfl) (by kernel_rfl) (by kernel_rfl) (fun _ _ _ h => h) (Or.inl ⟨by kernel_rfl, ?yc16⟩) (by assumption) ?rc16
      case yc16 =>
        intro w hSw
        try dsimp only at hSw
        first | (go_simp; done) | (go_simp; with_reducible rfl)
      try simp only [Act.put, List.setIfInBounds_toArray, List.set_cons_zero, List.set_cons_succ]
      refine wpAnyH_take (i := 17) (oi := ⟨some 53, _, _, _, _, _⟩) (v := ?vc17) rfl (by kernel_rfl) (by kernel_rfl) (by kernel_rfl) (fun _ _ _ h => h) (Or.inl ⟨by kernel_rfl, ?yc17⟩) (by assumption) ?rc17
      case yc17 =>
        intro w hSw
        try dsimp only at hSw
        first | (go_simp; done) | (go_simp; with_reducible rfl)
      try simp only [Act.put, List.setIfInBounds_toArray, List.set_cons_zero, List.set_cons_succ]
      refine wpAnyH_take (i := 18) (oi := ⟨some 54, _, _, _, _, _⟩) (v := ?vc18) rfl (by kernel_rfl) (by kernel_rfl) (by kernel_rfl) (fun _ _ _ h => h) (Or.inl ⟨by kernel_rfl, ?yc18⟩) (by assumption) ?rc18
      case yc18 =>
        intro w hSw
        try dsimp only at hSw
        first | (go_simp; done) | (go_simp; with_reducible rfl)
      try simp only [Act.put, List.setIfInBounds_toArray, List.set_cons_zero, List.set_cons_succ]
      refine wpAnyH_ready (rs := [19]) (by kernel_rfl) (by simp) ?_
      refine AllReadyH.cons (i := 19) (o := ⟨some 55, _, _, _, _, _⟩) rfl (fun K hK => ?_) AllReadyH.nil
      go_simp
      go_at_call 29
      refine (O3.out _).mono ?_
      rintro e wp ⟨rfl, hb⟩
      go_wp2_with fail
      refine hK.out _ _ ?_ (fun hHeld => ?_)
      · exact kept_five (by assumption) hb
      clear hK K
      try simp only [Act.put, List.setIfInBounds_toArray, List.set_cons_zero, List.set_cons_succ]
      refine wpAnyH_take (i := 20) (oi := ⟨some 56, _, _, _, _, _⟩) (v := ?vc20) rfl (by kernel_rfl) (by kernel_rfl) (by kernel_rfl) (fun _ _ _ h => h) (Or.inl ⟨by kernel_rfl, ?yc20⟩) (by assumption) ?rc20
      case yc20 =>
        intro w hSw
        try dsimp only at hSw
        first | (go_simp; done) | (go_simp; with_reducible rfl)
      try simp only [Act.put, List.setIfInBounds_toArray, List.set_cons_zero, List.set_cons_succ]
      refine wpAnyH_take (i := 21) (oi := ⟨some 57, _, _, _, _, _⟩) (v := ?vc21) rfl (by kernel_rfl) (by kernel_rfl) (by kernel_rfl) (fun _ _ _ h => h) (Or.inl ⟨by kernel_rfl, ?yc21⟩) (by assumption) ?rc21
      case yc21 =>
        intro w hSw
        try dsimp only at hSw
        first | (go_simp; done) | (go_simp; with_reducible rfl)
      try simp only [Act.put, List.setIfInBounds_toArray, List.set_cons_zero, List.set_cons_succ]
      refine wpAnyH_take (i := 22) (oi := ⟨some 58, _, _, _, _, _⟩) (v := ?vc22) rfl (by kernel_rfl) (by kernel_rfl) (by kernel_rfl) (fun _ _ _ h => h) (Or.inl ⟨by kernel_rfl, ?yc22⟩) (by assumption) ?rc22
      case yc22 =>
        intro w hSw
        try dsimp only at hSw
        first | (go_simp; done) | (go_simp; with_reducible rfl)
      try simp only [Act.put, List.setIfInBounds_toArray, List.set_cons_zero, List.set_cons_succ]
      refine wpAnyH_take (i := 23) (oi := ⟨some 59, _, _, _, _, _⟩) (v := ?vc23) rfl (by kernel_rfl) (by kernel_rfl) (by kernel_rfl) (fun _ _ _ h => h) (Or.inl ⟨by kernel_rfl, ?yc23⟩) (by assumption) ?rc23
      case yc23 =>
        intro w hSw
        try dsimp only at hSw
        first | (go_simp; done) | (go_simp; with_reducible rfl)
      try simp only [Act.put, List.setIfInBounds_toArray, List.set_cons_zero, List.set_cons_succ]
      refine wpAnyH_take (i := 24) (oi := ⟨some 60, _, _, _, _, _⟩) (v := ?vc24) rfl (by kernel_rfl) (by kernel_rfl) (by kernel_rfl) (fun _ _ _ h => h) (Or.inl ⟨by kernel_rfl, ?yc24⟩) (by assumption) ?rc24
      case yc24 =>
        intro w hSw
        try dsimp only at hSw
        first | (go_simp; done) | (go_simp; with_reducible rfl)
      try simp only [Act.put, List.setIfInBounds_toArray, List.set_cons_zero, List.set_cons_succ]
      refine wpAnyH_take (i := 25) (oi := ⟨some 61, _, _, _, _, _⟩) (v := ?vc25) rfl (by kernel_rfl) (by kernel_rfl) (by kernel_rfl) (fun _ _ _ h => h) (Or.inl ⟨by kernel_rfl, ?yc25⟩) (by assumption) ?rc25
      case yc25 =>
        intro w hSw
        try dsimp only at hSw
        first | (go_simp; done) | (go_simp; with_reducible rfl)
      try simp only [Act.put, List.setIfInBounds_toArray, List.set_cons_zero, List.set_cons_succ]
      refine wpAnyH_take (i := 26) (oi := ⟨some 62, _, _, _, _, _⟩) (v := ?vc26) rfl (by kernel_rfl) (by kernel_rfl) (by kernel_rfl) (fun _ _ _ h => h) (Or.inl ⟨by kernel_rfl, ?yc26⟩) (by assumption) ?rc26
      case yc26 =>
        intro w hSw
        try dsimp only at hSw
        first | (go_simp; done) | (go_simp; with_reducible rfl)
      try simp only [Act.put, List.setIfInBounds_toArray, List.set_cons_zero, List.set_cons_succ]
      refine wpAnyH_ready (rs := [27]) (by kernel_rfl) (by simp) ?_
      refine AllReadyH.cons (i := 27) (o := ⟨some 63, _, _, _, _, _⟩) rfl (fun K hK => ?_) AllReadyH.nil
      go_simp
      go_at_call 29
      refine (O4.out _).mono ?_
      rintro e wp ⟨rfl, hb⟩
      go_wp2_with fail
      refine hK.out _ _ ?_ (fun hHeld => ?_)
      · exact kept_five (by assumption) hb
      clear hK K
      try simp only [Act.put, List.setIfInBounds_toArray, List.set_cons_zero, List.set_cons_succ]
      refine wpAnyH_take (i := 28) (oi := ⟨some 64, _, _, _, _, _⟩) (v := ?vc28) rfl (by kernel_rfl) (by kernel_rfl) (by kernel_rfl) (fun _ _ _ h => h) (Or.inl ⟨by kernel_rfl, ?yc28⟩) (by assumption) ?rc28
      case yc28 =>
        intro w hSw
        try dsimp only at hSw
        first | (go_simp; done) | (go_simp; with_reducible rfl)
      try simp only [Act.put, List.setIfInBounds_toArray, List.set_cons_zero, List.set_cons_succ]
      refine wpAnyH_take (i := 29) (oi := ⟨some 65, _, _, _, _, _⟩) (v := ?vc29) rfl (by kernel_rfl) (by kernel_rfl) (by kernel_rfl) (fun _ _ _ h => h) (Or.inl ⟨by kernel_rfl, ?yc29⟩) (by assumption) ?rc29
      case yc29 =>
        intro w hSw
        try dsimp only at hSw
        first | (go_simp; done) | (go_simp; with_reducible rfl)
      try simp only [Act.put, List.setIfInBounds_toArray, List.set_cons_zero, List.set_cons_succ]
      refine wpAnyH_take (i := 30) (oi := ⟨some 66, _, _, _, _, _⟩) (v := ?vc30) rfl (by kernel_rfl) (by kernel_rfl) (by kernel_rfl) (fun _ _ _ h => h) (Or.inl ⟨by kernel_rfl, ?yc30⟩) (by assumption) ?rc30
      case yc30 =>
        intro w hSw
        try dsimp only at hSw
        first | (go_simp; done) | (go_simp; with_reducible rfl)
      try simp only [Act.put, List.setIfInBounds_toArray, List.set_cons_zero, List.set_cons_succ]
      refine wpAnyH_take (i := 31) (oi := ⟨some 67, _, _, _, _, _⟩) (v := ?vc31) rfl (by kernel_rfl) (by kernel_rfl) (by kernel_rfl) (fun _ _ _ h => h) (Or.inl ⟨by kernel_rfl, ?yc31⟩) (by assumption) ?rc31
      case yc31 =>
        intro w hSw
        try dsimp only at hSw
        first | (go_simp; done) | (go_simp; with_reducible rfl)
      try simp only [Act.put, List.setIfInBounds_toArray, List.set_cons_zero, List.set_cons_succ]
      refine wpAnyH_take (i := 32) (oi := ⟨some 68, _, _, _, _, _⟩) (v := ?vc32) rfl (by kernel_rfl) (by kernel_rfl) (by kernel_rfl) (fun _ _ _ h => h) (Or.inl ⟨by kernel_rfl, ?yc32⟩) (by assumption) ?rc32
      case yc32 =>
        intro w hSw
        try dsimp only at hSw
        first | (go_simp; done) | (go_simp; with_reducible rfl)
      try simp only [Act.put, List.setIfInBounds_toArray, List.set_cons_zero, List.set_cons_succ]
      refine wpAnyH_take (i := 33) (oi := ⟨some 69, _, _, _, _, _⟩) (v := ?vc33) rfl (by kernel_rfl) (by kernel_rfl) (by kernel_rfl) (fun _ _ _ h => h) (Or.inl ⟨by kernel_rfl, ?yc33⟩) (by assumption) ?rc33
      case yc33 =>
        intro w hSw
        try dsimp only at hSw
        first | (go_simp; done) | (go_simp; with_reducible rfl)
      try simp only [Act.put, List.setIfInBounds_toArray, List.set_cons_zero, List.set_cons_succ]
      refine wpAnyH_take (i := 37) (oi := ⟨some 73, _, _, _, _, _⟩) (v := ?vc37) rfl (by kernel_rfl) (by kernel_rfl) (by kernel_rfl) (fun _ _ _ h => h) (Or.inl ⟨by kernel_rfl, ?yc37⟩) (by assumption) ?rc37
      case yc37 =>
        intro w hSw
        try dsimp only at hSw
        first | (go_simp; done) | (go_simp; with_reducible rfl)
      try simp only [Act.put, List.setIfInBounds_toArray, List.set_cons_zero, List.set_cons_succ]
      refine wpAnyH_ready (rs := [34]) (by kernel_rfl) (by simp) ?_
      refine AllReadyH.cons (i := 34) (o := ⟨some 70, _, _, _, _, _⟩) rfl (fun K hK => ?_) AllReadyH.nil
      go_simp
      go_at_call 18
      refine (PL.out _).mono ?_
      rintro e wp ⟨rfl, hb⟩
      go_wp2_with fail
      refine hK.out _ _ ?_ (fun hHeld => ?_)
      · exact kept_five (by assumption) hb
      clear hK K
      try simp only [Act.put, List.setIfInBounds_toArray, List.set_cons_zero, List.set_cons_succ]
      refine wpAnyH_take (i := 35) (oi := ⟨some 71, _, _, _, _, _⟩) (v := ?vc35) rfl (by kernel_rfl) (by kernel_rfl) (by kernel_rfl) (fun _ _ _ h => h) (Or.inl ⟨by kernel_rfl, ?yc35⟩) (by assumption) ?rc35
      case yc35 =>
        intro w hSw
        try dsimp only at hSw
        first | (go_simp; done) | (go_simp; with_reducible rfl)
      try simp only [Act.put, List.setIfInBounds_toArray, List.set_cons_zero, List.set_cons_succ]
      refine wpAnyH_ready (rs := [36]) (by kernel_rfl) (by simp) ?_
      refine AllReadyH.cons (i := 36) (o := ⟨some 72, _, _, _, _, _⟩) rfl (fun K hK => ?_) AllReadyH.nil
      go_simp
      go_at_call 29
      refine (O5.out _).mono ?_
      rintro e wp ⟨rfl, hb⟩
      go_wp2_with fail
      refine hK.out _ _ ?_ (fun hHeld => ?_)
      · exact kept_five (by assumption) hb
      clear hK K
      try simp only [Act.put, List.setIfInBounds_toArray, List.set_cons_zero, List.set_cons_succ]
      refine wpAnyH_take (i := 38) (oi := ⟨some 74, _, _, _, _, _⟩) (v := ?vc38) rfl (by kernel_rfl) (by kernel_rfl) (by kernel_rfl) (fun _ _ _ h => h) (Or.inl ⟨by kernel_rfl, ?yc38⟩) (by assumption) ?rc38
      case yc38 =>
        intro w hSw
        try dsimp only at hSw
        first | (go_simp; done) | (go_simp; with_reducible rfl)
      try simp only [Act.put, List.setIfInBounds_toArray, List.set_cons_zero, List.set_cons_succ]
      refine wpAnyH_take (i := 39) (oi := ⟨some 75, _, _, _, _, _⟩) (v := ?vc39) rfl (by kernel_rfl) (by kernel_rfl) (by kernel_rfl) (fun _ _ _ h => h) (Or.inl ⟨by kernel_rfl, ?yc39⟩) (by assumption) ?rc39
      case yc39 =>
        intro w hSw
        try dsimp only at hSw
        first | (go_simp; done) | (go_simp; with_reducible rfl)
      try simp only [Act.put, List.setIfInBounds_toArray, List.set_cons_zero, List.set_cons_succ]
      refine wpAnyH_take (i := 40) (oi := ⟨some 76, _, _, _, _, _⟩) (v := ?vc40) rfl (by kernel_rfl) (by kernel_rfl) (by kernel_rfl) (fun _ _ _ h => h) (Or.inl ⟨by kernel_rfl, ?yc40⟩) (by assumption) ?rc40
      case yc40 =>
        intro w hSw
        try dsimp only at hSw
        first | (go_simp; done) | (go_simp; with_reducible rfl)
      try simp only [Act.put, List.setIfInBounds_toArray, List.set_cons_zero, List.set_cons_succ]
      refine wpAnyH_take (i := 41) (oi := ⟨some 77, _, _, _, _, _⟩) (v := ?vc41) rfl (by kernel_rfl) (by kernel_rfl) (by kernel_rfl) (fun _ _ _ h => h) (Or.inl ⟨by kernel_rfl, ?yc41⟩) (by assumption) ?rc41
      case yc41 =>
        intro w hSw
        try dsimp only at hSw
        first | (go_simp; done) | (go_simp; with_reducible rfl)
      try simp only [Act.put, List.setIfInBounds_toArray, List.set_cons_zero, List.set_cons_succ]
      refine wpAnyH_take (i := 42) (oi := ⟨some 78, _, _, _, _, _⟩) (v := ?vc42) rfl (by kernel_rfl) (by kernel_rfl) (by kernel_rfl) (fun _ _ _ h => h) (Or.inl ⟨by kernel_rfl, ?yc42⟩) (by assumption) ?rc42
      case yc42 =>
        intro w hSw
        try dsimp only at hSw
        first | (go_simp; done) | (go_simp; with_reducible rfl)
      try simp only [Act.put, List.setIfInBounds_toArray, List.set_cons_zero, List.set_cons_succ]
      refine wpAnyH_take (i := 43) (oi := ⟨some 79, _, _, _, _, _⟩) (v := ?vc43) rfl (by kernel_rfl) (by kernel_rfl) (by kernel_rfl) (fun _ _ _ h => h) (Or.inl ⟨by kernel_rfl, ?yc43⟩) (by assumption) ?rc43
      case yc43 =>
        intro w hSw
        try dsimp only at hSw
        first | (go_simp; done) | (go_simp; with_reducible rfl)
      try simp only [Act.put, List.setIfInBounds_toArray, List.set_cons_zero, List.set_cons_succ]
      refine wpAnyH_take (i := 44) (oi := ⟨some 80, _, _, _, _, _⟩) (v := ?vc44) rfl (by kernel_rfl) (by kernel_rfl) (by kernel_rfl) (fun _ _ _ h => h) (Or.inl ⟨by kernel_rfl, ?yc44⟩) (by assumption) ?rc44
      case yc44 =>
        intro w hSw
        try dsimp only at hSw
        first | (go_simp; done) | (go_simp; with_reducible rfl)
      try simp only [Act.put, List.setIfInBounds_toArray, List.set_cons_zero, List.set_cons_succ]
      refine wpAnyH_take (i := 45) (oi := ⟨some 81, _, _, _, _, _⟩) (v := ?vc45) rfl (by kernel_rfl) (by kernel_rfl) (by kernel_rfl) (fun _ _ _ h => h) (Or.inl ⟨by kernel_rfl, ?yc45⟩) (by assumption) ?rc45
      case yc45 =>
        intro w hSw
        try dsimp only at hSw
        first | (go_simp; done) | (go_simp; with_reducible rfl)
      try simp only [Act.put, List.setIfInBounds_toArray, List.set_cons_zero, List.set_cons_succ]
      refine wpAnyH_take (i := 47) (oi := ⟨some 83, _, _, _, _, _⟩) (v := ?vc47) rfl (by kernel_rfl) (by kernel_rfl) (by kernel_rfl) (fun _ _ _ h => h) (Or.inl ⟨by kernel_rfl, ?yc47⟩) (by assumption) ?rc47
      case yc47 =>
        intro w hSw
        try dsimp only at hSw
        first | (go_simp; done) | (go_simp; with_reducible rfl)
      try simp only [Act.put, List.setIfInBounds_toArray, List.set_cons_zero, List.set_cons_succ]
      refine wpAnyH_ready (rs := [46]) (by kernel_rfl) (by simp) ?_
      refine AllReadyH.cons (i := 46) (o := ⟨some 82, _, _, _, _, _⟩) rfl (fun K hK => ?_) AllReadyH.nil
      go_simp
      go_at_call 29
      refine (O6.out _).mono ?_
      rintro e wp ⟨rfl, hb⟩
      go_wp2_with fail
      refine hK.out _ _ ?_ (fun hHeld => ?_)
      · exact kept_five (by assumption) hb
      clear hK K
      try simp only [Act.put, List.setIfInBounds_toArray, List.set_cons_zero, List.set_cons_succ]
      refine wpAnyH_take (i := 48) (oi := ⟨some 84, _, _, _, _, _⟩) (v := ?vc48) rfl (by kernel_rfl) (by kernel_rfl) (by kernel_rfl) (fun _ _ _ h => h) (Or.inl ⟨by kernel_rfl, ?yc48⟩) (by assumption) ?rc48
      case yc48 =>
        intro w hSw
        try dsimp only at hSw
        first | (go_simp; done) | (go_simp; with_reducible rfl)
      try simp only [Act.put, List.setIfInBounds_toArray, List.set_cons_zero, List.set_cons_succ]
      refine wpAnyH_take (i := 49) (oi := ⟨some 85, _, _, _, _, _⟩) (v := ?vc49) rfl (by kernel_rfl) (by kernel_rfl) (by kernel_rfl) (fun _ _ _ h => h) (Or.inl ⟨by kernel_rfl, ?yc49⟩) (by assumption) ?rc49
      case yc49 =>
        intro w hSw
        try dsimp only at hSw
        first | (go_simp; done) | (go_simp; with_reducible rfl)
      try simp only [Act.put, List.setIfInBounds_toArray, List.set_cons_zero, List.set_cons_succ]
      refine wpAnyH_take (i := 50) (oi := ⟨some 86, _, _, _, _, _⟩) (v := ?vc50) rfl (by kernel_rfl) (by kernel_rfl) (by kernel_rfl) (fun _ _ _ h => h) (Or.inl ⟨by kernel_rfl, ?yc50⟩) (by assumption) ?rc50
      case yc50 =>
        intro w hSw
        try dsimp only at hSw
        first | (go_simp; done) | (go_simp; with_reducible rfl)
      try simp only [Act.put, List.setIfInBounds_toArray, List.set_cons_zero, List.set_cons_succ]
      refine wpAnyH_take (i := 51) (oi := ⟨some 87, _, _, _, _, _⟩) (v := ?vc51) rfl (by kernel_rfl) (by kernel_rfl) (by kernel_rfl) (fun _ _ _ h => h) (Or.inl ⟨by kernel_rfl, ?yc51⟩) (by assumption) ?rc51
      case yc51 =>
        intro w hSw
        try dsimp only at hSw
        first | (go_simp; done) | (go_simp; with_reducible rfl)
      try simp only [Act.put, List.setIfInBounds_toArray, List.set_cons_zero, List.set_cons_succ]
      refine wpAnyH_take (i := 52) (oi := ⟨some 88, _, _, _, _, _⟩) (v := ?vc52) rfl (by kernel_rfl) (by kernel_rfl) (by kernel_rfl) (fun _ _ _ h => h) (Or.inl ⟨by kernel_rfl, ?yc52⟩) (by assumption) ?rc52
      case yc52 =>
        intro w hSw
        try dsimp only at hSw
        first | (go_simp; done) | (go_simp; with_reducible rfl)
      try simp only [Act.put, List.setIfInBounds_toArray, List.set_cons_zero, List.set_cons_succ]
      refine wpAnyH_take (i := 53) (oi := ⟨some 89, _, _, _, _, _⟩) (v := ?vc53) rfl (by kernel_rfl) (by kernel_rfl) (by kernel_rfl) (fun _ _ _ h => h) (Or.inl ⟨by kernel_rfl, ?yc53⟩) (by assumption) ?rc53
      case yc53 =>
        intro w hSw
        try dsimp only at hSw
        first | (go_simp; done) | (go_simp; with_reducible rfl)
      try simp only [Act.put, List.setIfInBounds_toArray, List.set_cons_zero, List.set_cons_succ]
      refine wpAnyH_take (i := 54) (oi := ⟨some 90, _, _, _, _, _⟩) (v := ?vc54) rfl (by kernel_rfl) (by kernel_rfl) (by kernel_rfl) (fun _ _ _ h => h) (Or.inl ⟨by kernel_rfl, ?yc54⟩) (by assumption) ?rc54
      case yc54 =>
        intro w hSw
        try dsimp only at hSw
        first | (go_simp; done) | (go_simp; with_reducible rfl)
      try simp only [Act.put, List.setIfInBounds_toArray, List.set_cons_zero, List.set_cons_succ]
      refine wpAnyH_take (i := 55) (oi := ⟨some 91, _, _, _, _, _⟩) (v := ?vc55) rfl (by kernel_rfl) (by kernel_rfl) (by kernel_rfl) (fun _ _ _ h => h) (Or.inl ⟨by kernel_rfl, ?yc55⟩) (by assumption) ?rc55
      case yc55 =>
        intro w hSw
        try dsimp only at hSw
        first | (go_simp; done) | (go_simp; with_reducible rfl)
      try simp only [Act.put, List.setIfInBounds_toArray, List.set_cons_zero, List.set_cons_succ]
      refine wpAnyH_take (i := 57) (oi := ⟨some 93, _, _, _, _, _⟩) (v := ?vc57) rfl (by kernel_rfl) (by kernel_rfl) (by kernel_rfl) (fun _ _ _ h => h) (Or.inl ⟨by kernel_rfl, ?yc57⟩) (by assumption) ?rc57
      case yc57 =>
        intro w hSw
        try dsimp only at hSw
        first | (go_simp; done) | (go_simp; with_reducible rfl)
      try simp only [Act.put, List.setIfInBounds_toArray, List.set_cons_zero, List.set_cons_succ]
      refine wpAnyH_ready (rs := [56]) (by kernel_rfl) (by simp) ?_
      refine AllReadyH.cons (i := 56) (o := ⟨some 92, _, _, _, _, _⟩) rfl (fun K hK => ?_) AllReadyH.nil
      go_simp
      go_at_call 29
      refine (O7.out _).mono ?_
      rintro e wp ⟨rfl, hb⟩
      go_wp2_with fail
      refine hK.out _ _ ?_ (fun hHeld => ?_)
      · exact kept_five (by assumption) hb
      clear hK K
      try simp only [Act.put, List.setIfInBounds_toArray, List.set_cons_zero, List.set_cons_succ]
      refine wpAnyH_take (i := 58) (oi := ⟨some 94, _, _, _, _, _⟩) (v := ?vc58) rfl (by kernel_rfl) (by kernel_rfl) (by kernel_rfl) (fun _ _ _ h => h) (Or.inl ⟨by kernel_rfl, ?yc58⟩) (by assumption) ?rc58
      case yc58 =>
        intro w hSw
        try dsimp only at hSw
        first | (go_simp; done) | (go_simp; with_reducible rfl)
      try simp only [Act.put, List.setIfInBounds_toArray, List.set_cons_zero, List.set_cons_succ]
      refine wpAnyH_take (i := 59) (oi := ⟨some 95, _, _, _, _, _⟩) (v := ?vc59) rfl (by kernel_rfl) (by kernel_rfl) (by kernel_rfl) (fun _ _ _ h => h) (Or.inl ⟨by kernel_rfl, ?yc59⟩) (by assumption) ?rc59
      case yc59 =>
        intro w hSw
        try dsimp only at hSw
        first | (go_simp; done) | (go_simp; with_reducible rfl)
      try simp only [Act.put, List.setIfInBounds_toArray, List.set_cons_zero, List.set_cons_succ]
      refine wpAnyH_take (i := 60) (oi := ⟨some 4, _, _, _, _, _⟩) (v := ?vc60) rfl (by kernel_rfl) (by kernel_rfl) (by kernel_rfl) (fun _ _ _ h => h) (Or.inl ⟨by kernel_rfl, ?yc60⟩) (by assumption) ?rc60
      case yc60 =>
        intro w hSw
        try dsimp only at hSw
        first | (go_simp; done) | (go_simp; with_reducible rfl)
      try simp only [Act.put, List.setIfInBounds_toArray, List.set_cons_zero, List.set_cons_succ]
      refine wpAnyH_done (by kernel_rfl) ?_ _
      obtain ⟨_, _, _, _, _, zz⟩ := hHeld
      have HZ2 := Lib.hid zz
      clear zz
      go_wp2_with fail
      go_ret
      exact ⟨rfl, HZ2.out⟩
end Go.Proofs.YteeajhnbifpklaaDoor
