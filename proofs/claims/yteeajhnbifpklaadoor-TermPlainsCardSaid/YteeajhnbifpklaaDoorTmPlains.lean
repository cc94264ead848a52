/- The law TermPlains: its walk. Every two strings. -/
import Derived.Test.YteeajhnbifpklaaDoorTmInts
import Derived.Test.YteeajhnbifpklaaDoorTmKinds
namespace Go.Proofs.YteeajhnbifpklaaDoor
open Go Go.RowKit
set_option linter.unusedVariables false
set_option linter.unusedSimpArgs false
abbrev litS (s : ByteArray) : Tm := .lit s xString ⟨#[]⟩
theorem facts_s : isInt xString = false ∧ isBool xString = false ∧ isStr xString = true ∧ sameS xString xInt = false := by
  simp only [isInt_data, isBool_data, isStr_data, sameS_data]
  decide +kernel
theorem ai_str (s : ByteArray) : aiE (litS s) = 10 ∧ aiN (litS s) = 0 := by
  constructor
  · show (if isInt xString then _ else (10 : Int)) = 10
    rw [facts_s.1]; rfl
  · show (if isInt xString then _ else (0 : Int)) = 0
    rw [facts_s.1]; rfl
theorem ab_str (s : ByteArray) : abE (litS s) = 10 ∧ abV (litS s) = false := by
  constructor
  · show (if isBool xString then _ else (10 : Int)) = 10
    rw [facts_s.2.1]; rfl
  · show (isBool xString && _) = false
    rw [facts_s.2.1]; rfl
theorem eff_str (s : ByteArray) : effV (litS s) = truthV (!s.toList.isEmpty) := by
  show (if isStr xString || isLang xString then truthV (!s.toList.isEmpty) else _) = _
  rw [facts_s.2.2.1]; rfl
theorem known_s : knownV xString = true := by unfold knownV; rw [facts_s.2.2.1]; rfl
theorem equal_str (s t : ByteArray) : equalV (litS s) (litS t) = truthV (s.toList == t.toList) := by
  unfold equalV
  have : eqT (litS s) (litS t) = (s.toList == t.toList) := by
    show (sameS s t && (sameS _ _ && sameS _ _)) = _
    rw [self_same, self_same]; simp [sameS]
  rw [this]
  cases h : s.toList == t.toList with
  | true => rfl
  | false =>
    show (if (true && true) = true then (if (isInt xString && isInt xString) = true then _ else if (isBool xString && isBool xString) = true then _ else if (!knownV xString || !knownV xString) = true then 2 else 0) else 0) = (0 : Int)
    rw [facts_s.1, facts_s.2.1, known_s]; simp
theorem equal_strint (s : ByteArray) (a : Int) : equalV (litS s) (litI a) = 0 := by
  unfold equalV
  have : eqT (litS s) (litI a) = false := by
    show (sameS _ _ && (sameS xString xInt && sameS _ _)) = _
    rw [facts_s.2.2.2]; simp
  rw [this]
  show (if (true && true) = true then (if (isInt xString && isInt xInt) = true then _ else if (isBool xString && isBool xInt) = true then _ else if (!knownV xString || !knownV xInt) = true then 2 else 0) else 0) = (0 : Int)
  rw [facts_s.1, facts_s.2.1, known_s, known_x.1]; simp
theorem equal_striri (s : ByteArray) : equalV (litS s) (.iri s) = 0 := rfl
def Six (s t : ByteArray) (B : Nat) (w w' : World) : Prop := w'.cell? ⟨B, 0, none⟩ = some (.string s) ∧ w'.cell? ⟨B, 1, none⟩ = some (.string ⟨#[104, 116, 116, 112, 58, 47, 47, 119, 119, 119, 46, 119, 51, 46, 111, 114, 103, 47, 50, 48, 48, 49, 47, 88, 77, 76, 83, 99, 104, 101, 109, 97, 35, 115, 116, 114, 105, 110, 103]⟩) ∧ w'.cell? ⟨B, 2, none⟩ = some (.string ⟨#[]⟩) ∧ w'.cell? ⟨B + 1, 0, none⟩ = some (.string t) ∧ w'.cell? ⟨B + 1, 1, none⟩ = some (.string ⟨#[104, 116, 116, 112, 58, 47, 47, 119, 119, 119, 46, 119, 51, 46, 111, 114, 103, 47, 50, 48, 48, 49, 47, 88, 77, 76, 83, 99, 104, 101, 109, 97, 35, 115, 116, 114, 105, 110, 103]⟩) ∧ w'.cell? ⟨B + 1, 2, none⟩ = some (.string ⟨#[]⟩) ∧ Below w.heap.size w w'
theorem kept_six {s t : ByteArray} {B : Nat} {w w1 w2 : World} (h : Six s t B w w1) (hb : Below w1.heap.size w1 w2) : Six s t B w w2 :=
  ⟨cell_below h.1 hb, cell_below h.2.1 hb, cell_below h.2.2.1 hb, cell_below h.2.2.2.1 hb, cell_below h.2.2.2.2.1 hb, cell_below h.2.2.2.2.2.1 hb, h.2.2.2.2.2.2.trans (hb.mono h.2.2.2.2.2.2.size)⟩
theorem six_z {s t : ByteArray} {B : Nat} {w w1 : World} (h : Six s t B w w1) : Below w.heap.size w w1 := h.2.2.2.2.2.2
set_option maxRecDepth 100000 in
set_option maxHeartbeats 12800000 in
theorem plains_walk (s t : ByteArray) (w : World) (ht : TabV w) (hv : ErrV w) (hs : s.size ≤ 9223372036854775807) (htz : t.size ≤ 9223372036854775807) :
    Calls Tryd.prog 6 #[.string s, .string t] w fun e w' => e = .returned (.bool true) ∧ Below w.heap.size w w' := by
  have AW := Lib.hid (fun w hv => awake3_any w hv)
  have HTV := Lib.hid (fun w' (hb : Below w.heap.size w w') => ht.below hb)
  have HEV := Lib.hid (fun w' (hb : Below w.heap.size w w') => hv.below hb)
  have HV := Lib.hid hv
  clear hv ht
  by_cases hbig : 300 < s.size ∨ 300 < t.size
  · rcases (by omega : (300 : Int) < s.size ∨ ((s.size : Int) ≤ 300 ∧ (300 : Int) < t.size)) with h2 | ⟨h2, h3⟩
    all_goals
      clear hbig
      go_enter Tryd.func6, Tryd.ntmps6
      go_wp2_with fail
      refine (AW.out _ HV.out).mono ?_
      rintro e w1 ⟨rfl, hb1⟩
      go_wp2_with fail
      refine (AW.out _ (HV.out.below hb1)).mono ?_
      rintro e w2 ⟨rfl, hb2⟩
      go_wp2_with fail
      go_ret
      exact ⟨rfl, hb1.trans (hb2.mono hb1.size)⟩
  have s3 : (s.size : Int) ≤ 300 := by omega
  have t3 : (t.size : Int) ≤ 300 := by omega
  have ZS : Sized (litS s) := ⟨by omega, by decide +kernel, by decide +kernel⟩
  have ZT : Sized (litS t) := ⟨by omega, by decide +kernel, by decide +kernel⟩
  have hF1 : Fit 1 := ⟨by decide, by decide⟩
  have PL := Lib.hid (plain_any t)
  have PS := Lib.hid (plain_any s)
  have IN := Lib.hid (fun w ht => int_any 1 w hF1.1 hF1.2 ht)
  have AI : Hid (∀ w, ErrV w → Calls Tryd.prog 19 #[.iface 35 (.agg #[.string s, .string ⟨#[104, 116, 116, 112, 58, 47, 47, 119, 119, 119, 46, 119, 51, 46, 111, 114, 103, 47, 50, 48, 48, 49, 47, 88, 77, 76, 83, 99, 104, 101, 109, 97, 35, 115, 116, 114, 105, 110, 103]⟩, .string ⟨#[]⟩])] w fun e w' => e = .returned (.tuple #[.int .i64 0, .int .i64 10]) ∧ Below w.heap.size w w') := Lib.hid (fun w hv => by
    have := asint_any (litS s) w ZS hv
    rw [(ai_str s).1, (ai_str s).2] at this
    exact this)
  have AB : Hid (∀ w, Calls Tryd.prog 20 #[.iface 35 (.agg #[.string s, .string ⟨#[104, 116, 116, 112, 58, 47, 47, 119, 119, 119, 46, 119, 51, 46, 111, 114, 103, 47, 50, 48, 48, 49, 47, 88, 77, 76, 83, 99, 104, 101, 109, 97, 35, 115, 116, 114, 105, 110, 103]⟩, .string ⟨#[]⟩])] w fun e w' => e = .returned (.tuple #[.bool false, .int .i64 10]) ∧ Below w.heap.size w w') := Lib.hid (fun w => by
    have := asbool_any (litS s) w
    rw [(ab_str s).1, (ab_str s).2] at this
    exact this)
  have EF : Hid (∀ w, ErrV w → Calls Tryd.prog 25 #[.iface 35 (.agg #[.string s, .string ⟨#[104, 116, 116, 112, 58, 47, 47, 119, 119, 119, 46, 119, 51, 46, 111, 114, 103, 47, 50, 48, 48, 49, 47, 88, 77, 76, 83, 99, 104, 101, 109, 97, 35, 115, 116, 114, 105, 110, 103]⟩, .string ⟨#[]⟩])] w fun e w' => e = .returned (.int .u8 (truthV (!s.toList.isEmpty))) ∧ Below w.heap.size w w') := Lib.hid (fun w hv => by
    have := eff_any (litS s) w ZS hv
    rw [eff_str] at this
    exact this)
  have E1 : Hid (∀ w, ErrV w → Calls Tryd.prog 14 #[.iface 35 (.agg #[.string s, .string ⟨#[104, 116, 116, 112, 58, 47, 47, 119, 119, 119, 46, 119, 51, 46, 111, 114, 103, 47, 50, 48, 48, 49, 47, 88, 77, 76, 83, 99, 104, 101, 109, 97, 35, 115, 116, 114, 105, 110, 103]⟩, .string ⟨#[]⟩]), .iface 35 (.agg #[.string t, .string ⟨#[104, 116, 116, 112, 58, 47, 47, 119, 119, 119, 46, 119, 51, 46, 111, 114, 103, 47, 50, 48, 48, 49, 47, 88, 77, 76, 83, 99, 104, 101, 109, 97, 35, 115, 116, 114, 105, 110, 103]⟩, .string ⟨#[]⟩])] w fun e w' => e = .returned (.int .u8 (truthV (s.toList == t.toList))) ∧ Below w.heap.size w w') := Lib.hid (fun w hv => by
    have := equal_any (litS s) (litS t) w ZS ZT hv
    rw [equal_str] at this
    exact this)
  have E2 : Hid (∀ w, ErrV w → Calls Tryd.prog 14 #[.iface 35 (.agg #[.string s, .string ⟨#[104, 116, 116, 112, 58, 47, 47, 119, 119, 119, 46, 119, 51, 46, 111, 114, 103, 47, 50, 48, 48, 49, 47, 88, 77, 76, 83, 99, 104, 101, 109, 97, 35, 115, 116, 114, 105, 110, 103]⟩, .string ⟨#[]⟩]), .iface 35 (.agg #[.string (intB 1), .string ⟨#[104, 116, 116, 112, 58, 47, 47, 119, 119, 119, 46, 119, 51, 46, 111, 114, 103, 47, 50, 48, 48, 49, 47, 88, 77, 76, 83, 99, 104, 101, 109, 97, 35, 105, 110, 116, 101, 103, 101, 114]⟩, .string ⟨#[]⟩])] w fun e w' => e = .returned (.int .u8 0) ∧ Below w.heap.size w w') := Lib.hid (fun w hv => by
    have := equal_any (litS s) (litI 1) w ZS (sized_int hF1) hv
    rw [equal_strint] at this
    exact this)
  have E3 : Hid (∀ w, ErrV w → Calls Tryd.prog 14 #[.iface 35 (.agg #[.string s, .string ⟨#[104, 116, 116, 112, 58, 47, 47, 119, 119, 119, 46, 119, 51, 46, 111, 114, 103, 47, 50, 48, 48, 49, 47, 88, 77, 76, 83, 99, 104, 101, 109, 97, 35, 115, 116, 114, 105, 110, 103]⟩, .string ⟨#[]⟩]), .iface 53 (.agg #[.string s])] w fun e w' => e = .returned (.int .u8 0) ∧ Below w.heap.size w w') := Lib.hid (fun w hv => by
    have := equal_any (litS s) (.iri s) w ZS (show s.size ≤ 1000000 by omega) hv
    rw [equal_striri] at this
    exact this)
  clear hbig hs htz ZS ZT hF1
  cases he : s.toList.isEmpty with
  | true =>
    have he2 : s.toList = [] := List.isEmpty_iff.1 he
    rw [he] at EF
    have D1 : Hid (truthV (!true) = truthV false) := Lib.hid rfl
    rw [D1.out] at EF
    clear D1 he
    go_enter Tryd.func6, Tryd.ntmps6
    go_wp2_with fail
    refine (AW.out _ HV.out).mono ?_
    rintro e w1 ⟨rfl, hb1⟩
    go_wp2_with fail
    refine (PS.out _).mono ?_
    rintro e w2 ⟨rfl, hb2⟩
    have z2 := hb1.trans (hb2.mono hb1.size)
    clear hb1 hb2
    go_wp2_with fail
    refine (PL.out _).mono ?_
    rintro e w3 ⟨rfl, hb3⟩
    have z3 := z2.trans (hb3.mono z2.size)
    clear z2 hb3
    go_wp2_with fail
    obtain ⟨B, hB⟩ : ∃ B, B = w3.heap.size := ⟨_, rfl⟩
    obtain ⟨w4, h4⟩ : ∃ w4, w4 = (w3.alloc (.cells #[.string s, .string ⟨#[104, 116, 116, 112, 58, 47, 47, 119, 119, 119, 46, 119, 51, 46, 111, 114, 103, 47, 50, 48, 48, 49, 47, 88, 77, 76, 83, 99, 104, 101, 109, 97, 35, 115, 116, 114, 105, 110, 103]⟩, .string ⟨#[]⟩] 35)).alloc (.cells #[.string t, .string ⟨#[104, 116, 116, 112, 58, 47, 47, 119, 119, 119, 46, 119, 51, 46, 111, 114, 103, 47, 50, 48, 48, 49, 47, 88, 77, 76, 83, 99, 104, 101, 109, 97, 35, 115, 116, 114, 105, 110, 103]⟩, .string ⟨#[]⟩] 35) := ⟨_, rfl⟩
    have HX : Hid (Six s t B w w4) := Lib.hid (by
      rw [h4, hB]
      refine ⟨by simp [go_sem], by simp [go_sem], by simp [go_sem], by simp [go_sem], by simp [go_sem], by simp [go_sem], ?_⟩
      have hz := z3.size
      exact (z3.alloc hz _).alloc (by simp; omega) _)
    rw [← h4, ← hB]
    clear h4 hB z3
    refine (AI.out _ (HEV.out _ (six_z HX.out))).mono ?_
    rintro e w5 ⟨rfl, hb5⟩
    replace HX := Lib.hid (kept_six HX.out hb5)
    clear hb5
    obtain ⟨p0, p1, p2, p3, p4, p5, _⟩ := HX.out
    go_wp2_with fail
    refine (AB.out _).mono ?_
    rintro e w6 ⟨rfl, hb6⟩
    replace HX := Lib.hid (kept_six HX.out hb6)
    clear hb6 p0 p1 p2 p3 p4 p5
    obtain ⟨p0, p1, p2, p3, p4, p5, hz⟩ := HX.out
    have HZ := Lib.hid hz
    clear hz
    go_wp2_with fail
    refine wp_region_held_drew (S := fun w' => w'.cell? ⟨B, 0, none⟩ = some (.string s) ∧ w'.cell? ⟨B, 1, none⟩ = some (.string ⟨#[104, 116, 116, 112, 58, 47, 47, 119, 119, 119, 46, 119, 51, 46, 111, 114, 103, 47, 50, 48, 48, 49, 47, 88, 77, 76, 83, 99, 104, 101, 109, 97, 35, 115, 116, 114, 105, 110, 103]⟩) ∧ w'.cell? ⟨B, 2, none⟩ = some (.string ⟨#[]⟩) ∧ w'.cell? ⟨B + 1, 0, none⟩ = some (.string t) ∧ w'.cell? ⟨B + 1, 1, none⟩ = some (.string ⟨#[104, 116, 116, 112, 58, 47, 47, 119, 119, 119, 46, 119, 51, 46, 111, 114, 103, 47, 50, 48, 48, 49, 47, 88, 77, 76, 83, 99, 104, 101, 109, 97, 35, 115, 116, 114, 105, 110, 103]⟩) ∧ w'.cell? ⟨B + 1, 2, none⟩ = some (.string ⟨#[]⟩) ∧ Below w.heap.size w w') (by kernel_rfl) ?hSp1x0 (fun hHeld => ?_)
    case hSp1x0 => exact ⟨p0, p1, p2, p3, p4, p5, HZ.out.drew⟩
    refine wpAnyH_take (i := 0) (oi := ⟨some 40, _, _, _, _, _⟩) (v := ?vp1x0) rfl (by kernel_rfl) (by kernel_rfl) (by kernel_rfl) (fun _ _ _ h => h) (Or.inl ⟨by kernel_rfl, ?yp1x0⟩) (by assumption) ?rp1x0
    case yp1x0 =>
      intro w hSw
      try dsimp only at hSw
      first | (go_simp; done) | (go_simp; with_reducible rfl)
    try simp only [Act.put, List.setIfInBounds_toArray, List.set_cons_zero, List.set_cons_succ]
    refine wpAnyH_take (i := 1) (oi := ⟨some 41, _, _, _, _, _⟩) (v := ?vp1x1) rfl (by kernel_rfl) (by kernel_rfl) (by kernel_rfl) (fun _ _ _ h => h) (Or.inl ⟨by kernel_rfl, ?yp1x1⟩) (by assumption) ?rp1x1
    case yp1x1 =>
      intro w hSw
      try dsimp only at hSw
      first | (go_simp; done) | (go_simp; with_reducible rfl)
    try simp only [Act.put, List.setIfInBounds_toArray, List.set_cons_zero, List.set_cons_succ]
    refine wpAnyH_take (i := 3) (oi := ⟨some 43, _, _, _, _, _⟩) (v := ?vp1x3) rfl (by kernel_rfl) (by kernel_rfl) (by kernel_rfl) (fun _ _ _ h => h) (Or.inl ⟨by kernel_rfl, ?yp1x3⟩) (by assumption) ?rp1x3
    case yp1x3 =>
      intro w hSw
      try dsimp only at hSw
      first | (go_simp; done) | (go_simp; with_reducible rfl)
    try simp only [Act.put, List.setIfInBounds_toArray, List.set_cons_zero, List.set_cons_succ]
    refine wpAnyH_take (i := 4) (oi := ⟨some 44, _, _, _, _, _⟩) (v := ?vp1x4) rfl (by kernel_rfl) (by kernel_rfl) (by kernel_rfl) (fun _ _ _ h => h) (Or.inl ⟨by kernel_rfl, ?yp1x4⟩) (by assumption) ?rp1x4
    case yp1x4 =>
      intro w hSw
      try dsimp only at hSw
      first | (go_simp; done) | (go_simp; with_reducible rfl)
    try simp only [Act.put, List.setIfInBounds_toArray, List.set_cons_zero, List.set_cons_succ]
    refine wpAnyH_ready (rs := [2]) (by kernel_rfl) (by simp) ?_
    refine AllReadyH.cons (i := 2) (o := ⟨some 42, _, _, _, _, _⟩) rfl (fun K hK => ?_) AllReadyH.nil
    go_simp
    go_at_call 25
    refine ((EF.out _ (HEV.out _ (six_z (by assumption))))).mono ?_
    rintro e wp ⟨rfl, hb⟩
    go_wp2_with fail
    refine hK.out _ _ ?_ (fun hHeld => ?_)
    · exact kept_six (by assumption) hb
    clear hK K
    clear hb
    try simp only [Act.put, List.setIfInBounds_toArray, List.set_cons_zero, List.set_cons_succ]
    refine wpAnyH_ready (rs := [5]) (by kernel_rfl) (by simp) ?_
    refine AllReadyH.cons (i := 5) (o := ⟨some 45, _, _, _, _, _⟩) rfl (fun K hK => ?_) AllReadyH.nil
    go_simp
    go_at_call 26
    refine (vof_any _ _).mono ?_
    rintro e wp ⟨rfl, rfl⟩
    go_wp2_with fail
    refine hK.out _ _ ?_ (fun hHeld => ?_)
    · exact (by assumption)
    clear hK K
    try simp only [Act.put, List.setIfInBounds_toArray, List.set_cons_zero, List.set_cons_succ]
    refine wpAnyH_take (i := 6) (oi := ⟨some 46, _, _, _, _, _⟩) (v := ?vp1x6) rfl (by kernel_rfl) (by kernel_rfl) (by kernel_rfl) (fun _ _ _ h => h) (Or.inl ⟨by kernel_rfl, ?yp1x6⟩) (by assumption) ?rp1x6
    case yp1x6 =>
      intro w hSw
      try dsimp only at hSw
      first | (go_simp; done) | (go_simp; with_reducible rfl)
    try simp only [Act.put, List.setIfInBounds_toArray, List.set_cons_zero, List.set_cons_succ]
    refine wpAnyH_take (i := 7) (oi := ⟨some 47, _, _, _, _, _⟩) (v := ?vp1x7) rfl (by kernel_rfl) (by kernel_rfl) (by kernel_rfl) (fun _ _ _ h => h) (Or.inl ⟨by kernel_rfl, ?yp1x7⟩) (by assumption) ?rp1x7
    case yp1x7 =>
      intro w hSw
      try dsimp only at hSw
      first | (go_simp; done) | (go_simp; with_reducible rfl)
    try simp only [Act.put, List.setIfInBounds_toArray, List.set_cons_zero, List.set_cons_succ]
    refine wpAnyH_take (i := 8) (oi := ⟨some 48, _, _, _, _, _⟩) (v := ?vp1x8) rfl (by kernel_rfl) (by kernel_rfl) (by kernel_rfl) (fun _ _ _ h => h) (Or.inl ⟨by kernel_rfl, ?yp1x8⟩) (by assumption) ?rp1x8
    case yp1x8 =>
      intro w hSw
      try dsimp only at hSw
      first | (go_simp; done) | (go_simp; with_reducible rfl)
    try simp only [Act.put, List.setIfInBounds_toArray, List.set_cons_zero, List.set_cons_succ]
    refine wpAnyH_take (i := 9) (oi := ⟨some 49, _, _, _, _, _⟩) (v := ?vp1x9) rfl (by kernel_rfl) (by kernel_rfl) (by kernel_rfl) (fun _ _ _ h => h) (Or.inl ⟨by kernel_rfl, ?yp1x9⟩) (by assumption) ?rp1x9
    case yp1x9 =>
      intro w hSw
      try dsimp only at hSw
      first | (go_simp; done) | (go_simp; with_reducible rfl)
    try simp only [Act.put, List.setIfInBounds_toArray, List.set_cons_zero, List.set_cons_succ]
    refine wpAnyH_take (i := 10) (oi := ⟨some 50, _, _, _, _, _⟩) (v := ?vp1x10) rfl (by kernel_rfl) (by kernel_rfl) (by kernel_rfl) (fun _ _ _ h => h) (Or.inl ⟨by kernel_rfl, ?yp1x10⟩) (by assumption) ?rp1x10
    case yp1x10 =>
      intro w hSw
      try dsimp only at hSw
      first | (go_simp; done) | (go_simp; with_reducible rfl)
    try simp only [Act.put, List.setIfInBounds_toArray, List.set_cons_zero, List.set_cons_succ]
    refine wpAnyH_take (i := 11) (oi := ⟨some 51, _, _, _, _, _⟩) (v := ?vp1x11) rfl (by kernel_rfl) (by kernel_rfl) (by kernel_rfl) (fun _ _ _ h => h) (Or.inl ⟨by kernel_rfl, ?yp1x11⟩) (by assumption) ?rp1x11
    case yp1x11 =>
      intro w hSw
      try dsimp only at hSw
      first | (go_simp; done) | (go_simp; with_reducible rfl)
    try simp only [Act.put, List.setIfInBounds_toArray, List.set_cons_zero, List.set_cons_succ]
    refine wpAnyH_take (i := 13) (oi := ⟨some 53, _, _, _, _, _⟩) (v := ?vp1x13) rfl (by kernel_rfl) (by kernel_rfl) (by kernel_rfl) (fun _ _ _ h => h) (Or.inl ⟨by kernel_rfl, ?yp1x13⟩) (by assumption) ?rp1x13
    case yp1x13 =>
      intro w hSw
      try dsimp only at hSw
      first | (go_simp; done) | (go_simp; with_reducible rfl)
    try simp only [Act.put, List.setIfInBounds_toArray, List.set_cons_zero, List.set_cons_succ]
    refine wpAnyH_take (i := 14) (oi := ⟨some 54, _, _, _, _, _⟩) (v := ?vp1x14) rfl (by kernel_rfl) (by kernel_rfl) (by kernel_rfl) (fun _ _ _ h => h) (Or.inl ⟨by kernel_rfl, ?yp1x14⟩) (by assumption) ?rp1x14
    case yp1x14 =>
      intro w hSw
      try dsimp only at hSw
      first | (go_simp; done) | (go_simp; with_reducible rfl)
    try simp only [Act.put, List.setIfInBounds_toArray, List.set_cons_zero, List.set_cons_succ]
    refine wpAnyH_take (i := 15) (oi := ⟨some 55, _, _, _, _, _⟩) (v := ?vp1x15) rfl (by kernel_rfl) (by kernel_rfl) (by kernel_rfl) (fun _ _ _ h => h) (Or.inl ⟨by kernel_rfl, ?yp1x15⟩) (by assumption) ?rp1x15
    case yp1x15 =>
      intro w hSw
      try dsimp only at hSw
      first | (go_simp; done) | (go_simp; with_reducible rfl)
    try simp only [Act.put, List.setIfInBounds_toArray, List.set_cons_zero, List.set_cons_succ]
    refine wpAnyH_ready (rs := [12]) (by kernel_rfl) (by simp) ?_
    refine AllReadyH.cons (i := 12) (o := ⟨some 52, _, _, _, _, _⟩) rfl (fun K hK => ?_) AllReadyH.nil
    go_simp
    go_at_call 14
    refine ((E1.out _ (HEV.out _ (six_z (by assumption))))).mono ?_
    rintro e wp ⟨rfl, hb⟩
    go_wp2_with fail
    refine hK.out _ _ ?_ (fun hHeld => ?_)
    · exact kept_six (by assumption) hb
    clear hK K
    clear hb
    try simp only [Act.put, List.setIfInBounds_toArray, List.set_cons_zero, List.set_cons_succ]
    refine wpAnyH_ready (rs := [16]) (by kernel_rfl) (by simp) ?_
    refine AllReadyH.cons (i := 16) (o := ⟨some 56, _, _, _, _, _⟩) rfl (fun K hK => ?_) AllReadyH.nil
    go_simp
    go_at_call 26
    refine (vof_any _ _).mono ?_
    rintro e wp ⟨rfl, rfl⟩
    go_wp2_with fail
    refine hK.out _ _ ?_ (fun hHeld => ?_)
    · exact (by assumption)
    clear hK K
    try simp only [Act.put, List.setIfInBounds_toArray, List.set_cons_zero, List.set_cons_succ]
    refine wpAnyH_take (i := 17) (oi := ⟨some 57, _, _, _, _, _⟩) (v := ?vp1x17) rfl (by kernel_rfl) (by kernel_rfl) (by kernel_rfl) (fun _ _ _ h => h) (Or.inl ⟨by kernel_rfl, ?yp1x17⟩) (by assumption) ?rp1x17
    case yp1x17 =>
      intro w hSw
      try dsimp only at hSw
      first | (go_simp; done) | (go_simp; with_reducible rfl)
    try simp only [Act.put, List.setIfInBounds_toArray, List.set_cons_zero, List.set_cons_succ]
    refine wpAnyH_take (i := 18) (oi := ⟨some 58, _, _, _, _, _⟩) (v := ?vp1x18) rfl (by kernel_rfl) (by kernel_rfl) (by kernel_rfl) (fun _ _ _ h => h) (Or.inl ⟨by kernel_rfl, ?yp1x18⟩) (by assumption) ?rp1x18
    case yp1x18 =>
      intro w hSw
      try dsimp only at hSw
      first | (go_simp; done) | (go_simp; with_reducible rfl)
    try simp only [Act.put, List.setIfInBounds_toArray, List.set_cons_zero, List.set_cons_succ]
    refine wpAnyH_take (i := 19) (oi := ⟨some 59, _, _, _, _, _⟩) (v := ?vp1x19) rfl (by kernel_rfl) (by kernel_rfl) (by kernel_rfl) (fun _ _ _ h => h) (Or.inl ⟨by kernel_rfl, ?yp1x19⟩) (by assumption) ?rp1x19
    case yp1x19 =>
      intro w hSw
      try dsimp only at hSw
      first | (go_simp; done) | (go_simp; with_reducible rfl)
    try simp only [Act.put, List.setIfInBounds_toArray, List.set_cons_zero, List.set_cons_succ]
    refine wpAnyH_take (i := 20) (oi := ⟨some 60, _, _, _, _, _⟩) (v := ?vp1x20) rfl (by kernel_rfl) (by kernel_rfl) (by kernel_rfl) (fun _ _ _ h => h) (Or.inl ⟨by kernel_rfl, ?yp1x20⟩) (by assumption) ?rp1x20
    case yp1x20 =>
      intro w hSw
      try dsimp only at hSw
      first | (go_simp; done) | (go_simp; with_reducible rfl)
    try simp only [Act.put, List.setIfInBounds_toArray, List.set_cons_zero, List.set_cons_succ]
    refine wpAnyH_take (i := 21) (oi := ⟨some 61, _, _, _, _, _⟩) (v := ?vp1x21) rfl (by kernel_rfl) (by kernel_rfl) (by kernel_rfl) (fun _ _ _ h => h) (Or.inl ⟨by kernel_rfl, ?yp1x21⟩) (by assumption) ?rp1x21
    case yp1x21 =>
      intro w hSw
      try dsimp only at hSw
      first | (go_simp; done) | (go_simp; with_reducible rfl)
    try simp only [Act.put, List.setIfInBounds_toArray, List.set_cons_zero, List.set_cons_succ]
    refine wpAnyH_take (i := 22) (oi := ⟨some 62, _, _, _, _, _⟩) (v := ?vp1x22) rfl (by kernel_rfl) (by kernel_rfl) (by kernel_rfl) (fun _ _ _ h => h) (Or.inl ⟨by kernel_rfl, ?yp1x22⟩) (by assumption) ?rp1x22
    case yp1x22 =>
      intro w hSw
      try dsimp only at hSw
      first | (go_simp; done) | (go_simp; with_reducible rfl)
    try simp only [Act.put, List.setIfInBounds_toArray, List.set_cons_zero, List.set_cons_succ]
    refine wpAnyH_take (i := 23) (oi := ⟨some 63, _, _, _, _, _⟩) (v := ?vp1x23) rfl (by kernel_rfl) (by kernel_rfl) (by kernel_rfl) (fun _ _ _ h => h) (Or.inl ⟨by kernel_rfl, ?yp1x23⟩) (by assumption) ?rp1x23
    case yp1x23 =>
      intro w hSw
      try dsimp only at hSw
      first | (go_simp; done) | (go_simp; with_reducible rfl)
    try simp only [Act.put, List.setIfInBounds_toArray, List.set_cons_zero, List.set_cons_succ]
    refine wpAnyH_take (i := 24) (oi := ⟨some 64, _, _, _, _, _⟩) (v := ?vp1x24) rfl (by kernel_rfl) (by kernel_rfl) (by kernel_rfl) (fun _ _ _ h => h) (Or.inl ⟨by kernel_rfl, ?yp1x24⟩) (by assumption) ?rp1x24
    case yp1x24 =>
      intro w hSw
      try dsimp only at hSw
      first | (go_simp; done) | (go_simp; with_reducible rfl)
    try simp only [Act.put, List.setIfInBounds_toArray, List.set_cons_zero, List.set_cons_succ]
    refine wpAnyH_take (i := 25) (oi := ⟨some 65, _, _, _, _, _⟩) (v := ?vp1x25) rfl (by kernel_rfl) (by kernel_rfl) (by kernel_rfl) (fun _ _ _ h => h) (Or.inl ⟨by kernel_rfl, ?yp1x25⟩) (by assumption) ?rp1x25
    case yp1x25 =>
      intro w hSw
      try dsimp only at hSw
      first | (go_simp; done) | (go_simp; with_reducible rfl)
    try simp only [Act.put, List.setIfInBounds_toArray, List.set_cons_zero, List.set_cons_succ]
    refine wpAnyH_take (i := 26) (oi := ⟨some 66, _, _, _, _, _⟩) (v := ?vp1x26) rfl (by kernel_rfl) (by kernel_rfl) (by kernel_rfl) (fun _ _ _ h => h) (Or.inl ⟨by kernel_rfl, ?yp1x26⟩) (by assumption) ?rp1x26
    case yp1x26 =>
      intro w hSw
      try dsimp only at hSw
      first | (go_simp; done) | (go_simp; with_reducible rfl)
    try simp only [Act.put, List.setIfInBounds_toArray, List.set_cons_zero, List.set_cons_succ]
    refine wpAnyH_take (i := 27) (oi := ⟨some 67, _, _, _, _, _⟩) (v := ?vp1x27) rfl (by kernel_rfl) (by kernel_rfl) (by kernel_rfl) (fun _ _ _ h => h) (Or.inl ⟨by kernel_rfl, ?yp1x27⟩) (by assumption) ?rp1x27
    case yp1x27 =>
      intro w hSw
      try dsimp only at hSw
      first | (go_simp; done) | (go_simp; with_reducible rfl)
    try simp only [Act.put, List.setIfInBounds_toArray, List.set_cons_zero, List.set_cons_succ]
    refine wpAnyH_take (i := 28) (oi := ⟨some 68, _, _, _, _, _⟩) (v := ?vp1x28) rfl (by kernel_rfl) (by kernel_rfl) (by kernel_rfl) (fun _ _ _ h => h) (Or.inl ⟨by kernel_rfl, ?yp1x28⟩) (by assumption) ?rp1x28
    case yp1x28 =>
      intro w hSw
      try dsimp only at hSw
      first | (go_simp; done) | (go_simp; with_reducible rfl)
    try simp only [Act.put, List.setIfInBounds_toArray, List.set_cons_zero, List.set_cons_succ]
    refine wpAnyH_take (i := 29) (oi := ⟨some 69, _, _, _, _, _⟩) (v := ?vp1x29) rfl (by kernel_rfl) (by kernel_rfl) (by kernel_rfl) (fun _ _ _ h => h) (Or.inl ⟨by kernel_rfl, ?yp1x29⟩) (by assumption) ?rp1x29
    case yp1x29 =>
      intro w hSw
      try dsimp only at hSw
      first | (go_simp; done) | (go_simp; with_reducible rfl)
    try simp only [Act.put, List.setIfInBounds_toArray, List.set_cons_zero, List.set_cons_succ]
    refine wpAnyH_ready (rs := [30]) (by kernel_rfl) (by simp) ?_
    refine AllReadyH.cons (i := 30) (o := ⟨some 70, _, _, _, _, _⟩) rfl (fun K hK => ?_) AllReadyH.nil
    go_simp
    go_at_call 16
    refine (IN.out _ (HTV.out _ (six_z (by assumption)))).mono ?_
    rintro e wp ⟨rfl, hb⟩
    go_wp2_with fail
    refine hK.out _ _ ?_ (fun hHeld => ?_)
    · exact kept_six (by assumption) hb
    clear hK K
    clear hb
    try simp only [Act.put, List.setIfInBounds_toArray, List.set_cons_zero, List.set_cons_succ]
    refine wpAnyH_take (i := 31) (oi := ⟨some 71, _, _, _, _, _⟩) (v := ?vp1x31) rfl (by kernel_rfl) (by kernel_rfl) (by kernel_rfl) (fun _ _ _ h => h) (Or.inl ⟨by kernel_rfl, ?yp1x31⟩) (by assumption) ?rp1x31
    case yp1x31 =>
      intro w hSw
      try dsimp only at hSw
      first | (go_simp; done) | (go_simp; with_reducible rfl)
    try simp only [Act.put, List.setIfInBounds_toArray, List.set_cons_zero, List.set_cons_succ]
    refine wpAnyH_ready (rs := [32]) (by kernel_rfl) (by simp) ?_
    refine AllReadyH.cons (i := 32) (o := ⟨some 72, _, _, _, _, _⟩) rfl (fun K hK => ?_) AllReadyH.nil
    go_simp
    go_at_call 14
    refine ((E2.out _ (HEV.out _ (six_z (by assumption))))).mono ?_
    rintro e wp ⟨rfl, hb⟩
    go_wp2_with fail
    refine hK.out _ _ ?_ (fun hHeld => ?_)
    · exact kept_six (by assumption) hb
    clear hK K
    clear hb
    try simp only [Act.put, List.setIfInBounds_toArray, List.set_cons_zero, List.set_cons_succ]
    refine wpAnyH_take (i := 33) (oi := ⟨some 73, _, _, _, _, _⟩) (v := ?vp1x33) rfl (by kernel_rfl) (by kernel_rfl) (by kernel_rfl) (fun _ _ _ h => h) (Or.inl ⟨by kernel_rfl, ?yp1x33⟩) (by assumption) ?rp1x33
    case yp1x33 =>
      intro w hSw
      try dsimp only at hSw
      first | (go_simp; done) | (go_simp; with_reducible rfl)
    try simp only [Act.put, List.setIfInBounds_toArray, List.set_cons_zero, List.set_cons_succ]
    refine wpAnyH_take (i := 34) (oi := ⟨some 74, _, _, _, _, _⟩) (v := ?vp1x34) rfl (by kernel_rfl) (by kernel_rfl) (by kernel_rfl) (fun _ _ _ h => h) (Or.inl ⟨by kernel_rfl, ?yp1x34⟩) (by assumption) ?rp1x34
    case yp1x34 =>
      intro w hSw
      try dsimp only at hSw
      first | (go_simp; done) | (go_simp; with_reducible rfl)
    try simp only [Act.put, List.setIfInBounds_toArray, List.set_cons_zero, List.set_cons_succ]
    refine wpAnyH_take (i := 35) (oi := ⟨some 75, _, _, _, _, _⟩) (v := ?vp1x35) rfl (by kernel_rfl) (by kernel_rfl) (by kernel_rfl) (fun _ _ _ h => h) (Or.inl ⟨by kernel_rfl, ?yp1x35⟩) (by assumption) ?rp1x35
    case yp1x35 =>
      intro w hSw
      try dsimp only at hSw
      first | (go_simp; done) | (go_simp; with_reducible rfl)
    try simp only [Act.put, List.setIfInBounds_toArray, List.set_cons_zero, List.set_cons_succ]
    refine wpAnyH_take (i := 36) (oi := ⟨some 76, _, _, _, _, _⟩) (v := ?vp1x36) rfl (by kernel_rfl) (by kernel_rfl) (by kernel_rfl) (fun _ _ _ h => h) (Or.inl ⟨by kernel_rfl, ?yp1x36⟩) (by assumption) ?rp1x36
    case yp1x36 =>
      intro w hSw
      try dsimp only at hSw
      first | (go_simp; done) | (go_simp; with_reducible rfl)
    try simp only [Act.put, List.setIfInBounds_toArray, List.set_cons_zero, List.set_cons_succ]
    refine wpAnyH_take (i := 37) (oi := ⟨some 77, _, _, _, _, _⟩) (v := ?vp1x37) rfl (by kernel_rfl) (by kernel_rfl) (by kernel_rfl) (fun _ _ _ h => h) (Or.inl ⟨by kernel_rfl, ?yp1x37⟩) (by assumption) ?rp1x37
    case yp1x37 =>
      intro w hSw
      try dsimp only at hSw
      first | (go_simp; done) | (go_simp; with_reducible rfl)
    try simp only [Act.put, List.setIfInBounds_toArray, List.set_cons_zero, List.set_cons_succ]
    refine wpAnyH_take (i := 38) (oi := ⟨some 78, _, _, _, _, _⟩) (v := ?vp1x38) rfl (by kernel_rfl) (by kernel_rfl) (by kernel_rfl) (fun _ _ _ h => h) (Or.inl ⟨by kernel_rfl, ?yp1x38⟩) (by assumption) ?rp1x38
    case yp1x38 =>
      intro w hSw
      try dsimp only at hSw
      first | (go_simp; done) | (go_simp; with_reducible rfl)
    try simp only [Act.put, List.setIfInBounds_toArray, List.set_cons_zero, List.set_cons_succ]
    refine wpAnyH_take (i := 39) (oi := ⟨some 79, _, _, _, _, _⟩) (v := ?vp1x39) rfl (by kernel_rfl) (by kernel_rfl) (by kernel_rfl) (fun _ _ _ h => h) (Or.inl ⟨by kernel_rfl, ?yp1x39⟩) (by assumption) ?rp1x39
    case yp1x39 =>
      intro w hSw
      try dsimp only at hSw
      first | (go_simp; done) | (go_simp; with_reducible rfl)
    try simp only [Act.put, List.setIfInBounds_toArray, List.set_cons_zero, List.set_cons_succ]
    refine wpAnyH_take (i := 40) (oi := ⟨some 80, _, _, _, _, _⟩) (v := ?vp1x40) rfl (by kernel_rfl) (by kernel_rfl) (by kernel_rfl) (fun _ _ _ h => h) (Or.inl ⟨by kernel_rfl, ?yp1x40⟩) (by assumption) ?rp1x40
    case yp1x40 =>
      intro w hSw
      try dsimp only at hSw
      first | (go_simp; done) | (go_simp; with_reducible rfl)
    try simp only [Act.put, List.setIfInBounds_toArray, List.set_cons_zero, List.set_cons_succ]
    refine wpAnyH_ready (rs := [41]) (by kernel_rfl) (by simp) ?_
    refine AllReadyH.cons (i := 41) (o := ⟨some 81, _, _, _, _, _⟩) rfl (fun K hK => ?_) AllReadyH.nil
    go_simp
    go_at_call 14
    refine ((E3.out _ (HEV.out _ (six_z (by assumption))))).mono ?_
    rintro e wp ⟨rfl, hb⟩
    go_wp2_with fail
    refine hK.out _ _ ?_ (fun hHeld => ?_)
    · exact kept_six (by assumption) hb
    clear hK K
    clear hb
    try simp only [Act.put, List.setIfInBounds_toArray, List.set_cons_zero, List.set_cons_succ]
    refine wpAnyH_take (i := 42) (oi := ⟨some 82, _, _, _, _, _⟩) (v := ?vp1x42) rfl (by kernel_rfl) (by kernel_rfl) (by kernel_rfl) (fun _ _ _ h => h) (Or.inl ⟨by kernel_rfl, ?yp1x42⟩) (by assumption) ?rp1x42
    case yp1x42 =>
      intro w hSw
      try dsimp only at hSw
      first | (go_simp; done) | (go_simp; with_reducible rfl)
    try simp only [Act.put, List.setIfInBounds_toArray, List.set_cons_zero, List.set_cons_succ]
    refine wpAnyH_take (i := 43) (oi := ⟨some 83, _, _, _, _, _⟩) (v := ?vp1x43) rfl (by kernel_rfl) (by kernel_rfl) (by kernel_rfl) (fun _ _ _ h => h) (Or.inl ⟨by kernel_rfl, ?yp1x43⟩) (by assumption) ?rp1x43
    case yp1x43 =>
      intro w hSw
      try dsimp only at hSw
      first | (go_simp; done) | (go_simp; with_reducible rfl)
    try simp only [Act.put, List.setIfInBounds_toArray, List.set_cons_zero, List.set_cons_succ]
    refine wpAnyH_take (i := 44) (oi := ⟨some 4, _, _, _, _, _⟩) (v := ?vp1x44) rfl (by kernel_rfl) (by kernel_rfl) (by kernel_rfl) (fun _ _ _ h => h) (Or.inl ⟨by kernel_rfl, ?yp1x44⟩) (by assumption) ?rp1x44
    case yp1x44 =>
      intro w hSw
      try dsimp only at hSw
      first | (go_simp; done) | (go_simp; with_reducible rfl)
    try simp only [Act.put, List.setIfInBounds_toArray, List.set_cons_zero, List.set_cons_succ]
    refine wpAnyH_done (by kernel_rfl) ?_ _
    have HZ2 := Lib.hid (six_z hHeld)
    go_wp2_with fail
    go_ret
    exact ⟨rfl, HZ2.out⟩
  | false =>
    have he2 : ¬ s.toList = [] := fun h => by rw [h] at he; cases he
    rw [he] at EF
    have D1 : Hid (truthV (!false) = truthV true) := Lib.hid rfl
    rw [D1.out] at EF
    clear D1
    go_enter Tryd.func6, Tryd.ntmps6
    go_wp2_with fail
    refine (AW.out _ HV.out).mono ?_
    rintro e w1 ⟨rfl, hb1⟩
    go_wp2_with fail
    refine (PS.out _).mono ?_
    rintro e w2 ⟨rfl, hb2⟩
    have z2 := hb1.trans (hb2.mono hb1.size)
    clear hb1 hb2
    go_wp2_with fail
    refine (PL.out _).mono ?_
    rintro e w3 ⟨rfl, hb3⟩
    have z3 := z2.trans (hb3.mono z2.size)
    clear z2 hb3
    go_wp2_with fail
    obtain ⟨B, hB⟩ : ∃ B, B = w3.heap.size := ⟨_, rfl⟩
    obtain ⟨w4, h4⟩ : ∃ w4, w4 = (w3.alloc (.cells #[.string s, .string ⟨#[104, 116, 116, 112, 58, 47, 47, 119, 119, 119, 46, 119, 51, 46, 111, 114, 103, 47, 50, 48, 48, 49, 47, 88, 77, 76, 83, 99, 104, 101, 109, 97, 35, 115, 116, 114, 105, 110, 103]⟩, .string ⟨#[]⟩] 35)).alloc (.cells #[.string t, .string ⟨#[104, 116, 116, 112, 58, 47, 47, 119, 119, 119, 46, 119, 51, 46, 111, 114, 103, 47, 50, 48, 48, 49, 47, 88, 77, 76, 83, 99, 104, 101, 109, 97, 35, 115, 116, 114, 105, 110, 103]⟩, .string ⟨#[]⟩] 35) := ⟨_, rfl⟩
    have HX : Hid (Six s t B w w4) := Lib.hid (by
      rw [h4, hB]
      refine ⟨by simp [go_sem], by simp [go_sem], by simp [go_sem], by simp [go_sem], by simp [go_sem], by simp [go_sem], ?_⟩
      have hz := z3.size
      exact (z3.alloc hz _).alloc (by simp; omega) _)
    rw [← h4, ← hB]
    clear h4 hB z3
    refine (AI.out _ (HEV.out _ (six_z HX.out))).mono ?_
    rintro e w5 ⟨rfl, hb5⟩
    replace HX := Lib.hid (kept_six HX.out hb5)
    clear hb5
    obtain ⟨p0, p1, p2, p3, p4, p5, _⟩ := HX.out
    go_wp2_with fail
    refine (AB.out _).mono ?_
    rintro e w6 ⟨rfl, hb6⟩
    replace HX := Lib.hid (kept_six HX.out hb6)
    clear hb6 p0 p1 p2 p3 p4 p5
    obtain ⟨p0, p1, p2, p3, p4, p5, hz⟩ := HX.out
    have HZ := Lib.hid hz
    clear hz
    go_wp2_with fail
    refine wp_region_held_drew (S := fun w' => w'.cell? ⟨B, 0, none⟩ = some (.string s) ∧ w'.cell? ⟨B, 1, none⟩ = some (.string ⟨#[104, 116, 116, 112, 58, 47, 47, 119, 119, 119, 46, 119, 51, 46, 111, 114, 103, 47, 50, 48, 48, 49, 47, 88, 77, 76, 83, 99, 104, 101, 109, 97, 35, 115, 116, 114, 105, 110, 103]⟩) ∧ w'.cell? ⟨B, 2, none⟩ = some (.string ⟨#[]⟩) ∧ w'.cell? ⟨B + 1, 0, none⟩ = some (.string t) ∧ w'.cell? ⟨B + 1, 1, none⟩ = some (.string ⟨#[104, 116, 116, 112, 58, 47, 47, 119, 119, 119, 46, 119, 51, 46, 111, 114, 103, 47, 50, 48, 48, 49, 47, 88, 77, 76, 83, 99, 104, 101, 109, 97, 35, 115, 116, 114, 105, 110, 103]⟩) ∧ w'.cell? ⟨B + 1, 2, none⟩ = some (.string ⟨#[]⟩) ∧ Below w.heap.size w w') (by kernel_rfl) ?hSp2x0 (fun hHeld => ?_)
    case hSp2x0 => exact ⟨p0, p1, p2, p3, p4, p5, HZ.out.drew⟩
    refine wpAnyH_take (i := 0) (oi := ⟨some 40, _, _, _, _, _⟩) (v := ?vp2x0) rfl (by kernel_rfl) (by kernel_rfl) (by kernel_rfl) (fun _ _ _ h => h) (Or.inl ⟨by kernel_rfl, ?yp2x0⟩) (by assumption) ?rp2x0
    case yp2x0 =>
      intro w hSw
      try dsimp only at hSw
      first | (go_simp; done) | (go_simp; with_reducible rfl)
    try simp only [Act.put, List.setIfInBounds_toArray, List.set_cons_zero, List.set_cons_succ]
    refine wpAnyH_take (i := 1) (oi := ⟨some 41, _, _, _, _, _⟩) (v := ?vp2x1) rfl (by kernel_rfl) (by kernel_rfl) (by kernel_rfl) (fun _ _ _ h => h) (Or.inl ⟨by kernel_rfl, ?yp2x1⟩) (by assumption) ?rp2x1
    case yp2x1 =>
      intro w hSw
      try dsimp only at hSw
      first | (go_simp; done) | (go_simp; with_reducible rfl)
    try simp only [Act.put, List.setIfInBounds_toArray, List.set_cons_zero, List.set_cons_succ]
    refine wpAnyH_take (i := 3) (oi := ⟨some 43, _, _, _, _, _⟩) (v := ?vp2x3) rfl (by kernel_rfl) (by kernel_rfl) (by kernel_rfl) (fun _ _ _ h => h) (Or.inl ⟨by kernel_rfl, ?yp2x3⟩) (by assumption) ?rp2x3
    case yp2x3 =>
      intro w hSw
      try dsimp only at hSw
      first | (go_simp; done) | (go_simp; with_reducible rfl)
    try simp only [Act.put, List.setIfInBounds_toArray, List.set_cons_zero, List.set_cons_succ]
    refine wpAnyH_take (i := 4) (oi := ⟨some 44, _, _, _, _, _⟩) (v := ?vp2x4) rfl (by kernel_rfl) (by kernel_rfl) (by kernel_rfl) (fun _ _ _ h => h) (Or.inl ⟨by kernel_rfl, ?yp2x4⟩) (by assumption) ?rp2x4
    case yp2x4 =>
      intro w hSw
      try dsimp only at hSw
      first | (go_simp; done) | (go_simp; with_reducible rfl)
    try simp only [Act.put, List.setIfInBounds_toArray, List.set_cons_zero, List.set_cons_succ]
    refine wpAnyH_ready (rs := [2]) (by kernel_rfl) (by simp) ?_
    refine AllReadyH.cons (i := 2) (o := ⟨some 42, _, _, _, _, _⟩) rfl (fun K hK => ?_) AllReadyH.nil
    go_simp
    go_at_call 25
    refine ((EF.out _ (HEV.out _ (six_z (by assumption))))).mono ?_
    rintro e wp ⟨rfl, hb⟩
    go_wp2_with fail
    refine hK.out _ _ ?_ (fun hHeld => ?_)
    · exact kept_six (by assumption) hb
    clear hK K
    clear hb
    try simp only [Act.put, List.setIfInBounds_toArray, List.set_cons_zero, List.set_cons_succ]
    refine wpAnyH_ready (rs := [5]) (by kernel_rfl) (by simp) ?_
    refine AllReadyH.cons (i := 5) (o := ⟨some 45, _, _, _, _, _⟩) rfl (fun K hK => ?_) AllReadyH.nil
    go_simp
    go_at_call 26
    refine (vof_any _ _).mono ?_
    rintro e wp ⟨rfl, rfl⟩
    go_wp2_with fail
    refine hK.out _ _ ?_ (fun hHeld => ?_)
    · exact (by assumption)
    clear hK K
    try simp only [Act.put, List.setIfInBounds_toArray, List.set_cons_zero, List.set_cons_succ]
    refine wpAnyH_take (i := 6) (oi := ⟨some 46, _, _, _, _, _⟩) (v := ?vp2x6) rfl (by kernel_rfl) (by kernel_rfl) (by kernel_rfl) (fun _ _ _ h => h) (Or.inl ⟨by kernel_rfl, ?yp2x6⟩) (by assumption) ?rp2x6
    case yp2x6 =>
      intro w hSw
      try dsimp only at hSw
      first | (go_simp; done) | (go_simp; with_reducible rfl)
    try simp only [Act.put, List.setIfInBounds_toArray, List.set_cons_zero, List.set_cons_succ]
    refine wpAnyH_take (i := 7) (oi := ⟨some 47, _, _, _, _, _⟩) (v := ?vp2x7) rfl (by kernel_rfl) (by kernel_rfl) (by kernel_rfl) (fun _ _ _ h => h) (Or.inl ⟨by kernel_rfl, ?yp2x7⟩) (by assumption) ?rp2x7
    case yp2x7 =>
      intro w hSw
      try dsimp only at hSw
      first | (go_simp; done) | (go_simp; with_reducible rfl)
    try simp only [Act.put, List.setIfInBounds_toArray, List.set_cons_zero, List.set_cons_succ]
    refine wpAnyH_take (i := 8) (oi := ⟨some 48, _, _, _, _, _⟩) (v := ?vp2x8) rfl (by kernel_rfl) (by kernel_rfl) (by kernel_rfl) (fun _ _ _ h => h) (Or.inl ⟨by kernel_rfl, ?yp2x8⟩) (by assumption) ?rp2x8
    case yp2x8 =>
      intro w hSw
      try dsimp only at hSw
      first | (go_simp; done) | (go_simp; with_reducible rfl)
    try simp only [Act.put, List.setIfInBounds_toArray, List.set_cons_zero, List.set_cons_succ]
    refine wpAnyH_take (i := 9) (oi := ⟨some 49, _, _, _, _, _⟩) (v := ?vp2x9) rfl (by kernel_rfl) (by kernel_rfl) (by kernel_rfl) (fun _ _ _ h => h) (Or.inl ⟨by kernel_rfl, ?yp2x9⟩) (by assumption) ?rp2x9
    case yp2x9 =>
      intro w hSw
      try dsimp only at hSw
      first | (go_simp; done) | (go_simp; with_reducible rfl)
    try simp only [Act.put, List.setIfInBounds_toArray, List.set_cons_zero, List.set_cons_succ]
    refine wpAnyH_take (i := 10) (oi := ⟨some 50, _, _, _, _, _⟩) (v := ?vp2x10) rfl (by kernel_rfl) (by kernel_rfl) (by kernel_rfl) (fun _ _ _ h => h) (Or.inl ⟨by kernel_rfl, ?yp2x10⟩) (by assumption) ?rp2x10
    case yp2x10 =>
      intro w hSw
      try dsimp only at hSw
      first | (go_simp; done) | (go_simp; with_reducible rfl)
    try simp only [Act.put, List.setIfInBounds_toArray, List.set_cons_zero, List.set_cons_succ]
    refine wpAnyH_take (i := 11) (oi := ⟨some 51, _, _, _, _, _⟩) (v := ?vp2x11) rfl (by kernel_rfl) (by kernel_rfl) (by kernel_rfl) (fun _ _ _ h => h) (Or.inl ⟨by kernel_rfl, ?yp2x11⟩) (by assumption) ?rp2x11
    case yp2x11 =>
      intro w hSw
      try dsimp only at hSw
      first | (go_simp; done) | (go_simp; with_reducible rfl)
    try simp only [Act.put, List.setIfInBounds_toArray, List.set_cons_zero, List.set_cons_succ]
    refine wpAnyH_take (i := 13) (oi := ⟨some 53, _, _, _, _, _⟩) (v := ?vp2x13) rfl (by kernel_rfl) (by kernel_rfl) (by kernel_rfl) (fun _ _ _ h => h) (Or.inl ⟨by kernel_rfl, ?yp2x13⟩) (by assumption) ?rp2x13
    case yp2x13 =>
      intro w hSw
      try dsimp only at hSw
      first | (go_simp; done) | (go_simp; with_reducible rfl)
    try simp only [Act.put, List.setIfInBounds_toArray, List.set_cons_zero, List.set_cons_succ]
    refine wpAnyH_take (i := 14) (oi := ⟨some 54, _, _, _, _, _⟩) (v := ?vp2x14) rfl (by kernel_rfl) (by kernel_rfl) (by kernel_rfl) (fun _ _ _ h => h) (Or.inl ⟨by kernel_rfl, ?yp2x14⟩) (by assumption) ?rp2x14
    case yp2x14 =>
      intro w hSw
      try dsimp only at hSw
      first | (go_simp; done) | (go_simp; with_reducible rfl)
    try simp only [Act.put, List.setIfInBounds_toArray, List.set_cons_zero, List.set_cons_succ]
    refine wpAnyH_take (i := 15) (oi := ⟨some 55, _, _, _, _, _⟩) (v := ?vp2x15) rfl (by kernel_rfl) (by kernel_rfl) (by kernel_rfl) (fun _ _ _ h => h) (Or.inl ⟨by kernel_rfl, ?yp2x15⟩) (by assumption) ?rp2x15
    case yp2x15 =>
      intro w hSw
      try dsimp only at hSw
      first | (go_simp; done) | (go_simp; with_reducible rfl)
    try simp only [Act.put, List.setIfInBounds_toArray, List.set_cons_zero, List.set_cons_succ]
    refine wpAnyH_ready (rs := [12]) (by kernel_rfl) (by simp) ?_
    refine AllReadyH.cons (i := 12) (o := ⟨some 52, _, _, _, _, _⟩) rfl (fun K hK => ?_) AllReadyH.nil
    go_simp
    go_at_call 14
    refine ((E1.out _ (HEV.out _ (six_z (by assumption))))).mono ?_
    rintro e wp ⟨rfl, hb⟩
    go_wp2_with fail
    refine hK.out _ _ ?_ (fun hHeld => ?_)
    · exact kept_six (by assumption) hb
    clear hK K
    clear hb
    try simp only [Act.put, List.setIfInBounds_toArray, List.set_cons_zero, List.set_cons_succ]
    refine wpAnyH_ready (rs := [16]) (by kernel_rfl) (by simp) ?_
    refine AllReadyH.cons (i := 16) (o := ⟨some 56, _, _, _, _, _⟩) rfl (fun K hK => ?_) AllReadyH.nil
    go_simp
    go_at_call 26
    refine (vof_any _ _).mono ?_
    rintro e wp ⟨rfl, rfl⟩
    go_wp2_with fail
    refine hK.out _ _ ?_ (fun hHeld => ?_)
    · exact (by assumption)
    clear hK K
    try simp only [Act.put, List.setIfInBounds_toArray, List.set_cons_zero, List.set_cons_succ]
    refine wpAnyH_take (i := 17) (oi := ⟨some 57, _, _, _, _, _⟩) (v := ?vp2x17) rfl (by kernel_rfl) (by kernel_rfl) (by kernel_rfl) (fun _ _ _ h => h) (Or.inl ⟨by kernel_rfl, ?yp2x17⟩) (by assumption) ?rp2x17
    case yp2x17 =>
      intro w hSw
      try dsimp only at hSw
      first | (go_simp; done) | (go_simp; with_reducible rfl)
    try simp only [Act.put, List.setIfInBounds_toArray, List.set_cons_zero, List.set_cons_succ]
    refine wpAnyH_take (i := 18) (oi := ⟨some 58, _, _, _, _, _⟩) (v := ?vp2x18) rfl (by kernel_rfl) (by kernel_rfl) (by kernel_rfl) (fun _ _ _ h => h) (Or.inl ⟨by kernel_rfl, ?yp2x18⟩) (by assumption) ?rp2x18
    case yp2x18 =>
      intro w hSw
      try dsimp only at hSw
      first | (go_simp; done) | (go_simp; with_reducible rfl)
    try simp only [Act.put, List.setIfInBounds_toArray, List.set_cons_zero, List.set_cons_succ]
    refine wpAnyH_take (i := 19) (oi := ⟨some 59, _, _, _, _, _⟩) (v := ?vp2x19) rfl (by kernel_rfl) (by kernel_rfl) (by kernel_rfl) (fun _ _ _ h => h) (Or.inl ⟨by kernel_rfl, ?yp2x19⟩) (by assumption) ?rp2x19
    case yp2x19 =>
      intro w hSw
      try dsimp only at hSw
      first | (go_simp; done) | (go_simp; with_reducible rfl)
    try simp only [Act.put, List.setIfInBounds_toArray, List.set_cons_zero, List.set_cons_succ]
    refine wpAnyH_take (i := 20) (oi := ⟨some 60, _, _, _, _, _⟩) (v := ?vp2x20) rfl (by kernel_rfl) (by kernel_rfl) (by kernel_rfl) (fun _ _ _ h => h) (Or.inl ⟨by kernel_rfl, ?yp2x20⟩) (by assumption) ?rp2x20
    case yp2x20 =>
      intro w hSw
      try dsimp only at hSw
      first | (go_simp; done) | (go_simp; with_reducible rfl)
    try simp only [Act.put, List.setIfInBounds_toArray, List.set_cons_zero, List.set_cons_succ]
    refine wpAnyH_take (i := 21) (oi := ⟨some 61, _, _, _, _, _⟩) (v := ?vp2x21) rfl (by kernel_rfl) (by kernel_rfl) (by kernel_rfl) (fun _ _ _ h => h) (Or.inl ⟨by kernel_rfl, ?yp2x21⟩) (by assumption) ?rp2x21
    case yp2x21 =>
      intro w hSw
      try dsimp only at hSw
      first | (go_simp; done) | (go_simp; with_reducible rfl)
    try simp only [Act.put, List.setIfInBounds_toArray, List.set_cons_zero, List.set_cons_succ]
    refine wpAnyH_take (i := 22) (oi := ⟨some 62, _, _, _, _, _⟩) (v := ?vp2x22) rfl (by kernel_rfl) (by kernel_rfl) (by kernel_rfl) (fun _ _ _ h => h) (Or.inl ⟨by kernel_rfl, ?yp2x22⟩) (by assumption) ?rp2x22
    case yp2x22 =>
      intro w hSw
      try dsimp only at hSw
      first | (go_simp; done) | (go_simp; with_reducible rfl)
    try simp only [Act.put, List.setIfInBounds_toArray, List.set_cons_zero, List.set_cons_succ]
    refine wpAnyH_take (i := 23) (oi := ⟨some 63, _, _, _, _, _⟩) (v := ?vp2x23) rfl (by kernel_rfl) (by kernel_rfl) (by kernel_rfl) (fun _ _ _ h => h) (Or.inl ⟨by kernel_rfl, ?yp2x23⟩) (by assumption) ?rp2x23
    case yp2x23 =>
      intro w hSw
      try dsimp only at hSw
      first | (go_simp; done) | (go_simp; with_reducible rfl)
    try simp only [Act.put, List.setIfInBounds_toArray, List.set_cons_zero, List.set_cons_succ]
    refine wpAnyH_take (i := 24) (oi := ⟨some 64, _, _, _, _, _⟩) (v := ?vp2x24) rfl (by kernel_rfl) (by kernel_rfl) (by kernel_rfl) (fun _ _ _ h => h) (Or.inl ⟨by kernel_rfl, ?yp2x24⟩) (by assumption) ?rp2x24
    case yp2x24 =>
      intro w hSw
      try dsimp only at hSw
      first | (go_simp; done) | (go_simp; with_reducible rfl)
    try simp only [Act.put, List.setIfInBounds_toArray, List.set_cons_zero, List.set_cons_succ]
    refine wpAnyH_take (i := 25) (oi := ⟨some 65, _, _, _, _, _⟩) (v := ?vp2x25) rfl (by kernel_rfl) (by kernel_rfl) (by kernel_rfl) (fun _ _ _ h => h) (Or.inl ⟨by kernel_rfl, ?yp2x25⟩) (by assumption) ?rp2x25
    case yp2x25 =>
      intro w hSw
      try dsimp only at hSw
      first | (go_simp; done) | (go_simp; with_reducible rfl)
    try simp only [Act.put, List.setIfInBounds_toArray, List.set_cons_zero, List.set_cons_succ]
    refine wpAnyH_take (i := 26) (oi := ⟨some 66, _, _, _, _, _⟩) (v := ?vp2x26) rfl (by kernel_rfl) (by kernel_rfl) (by kernel_rfl) (fun _ _ _ h => h) (Or.inl ⟨by kernel_rfl, ?yp2x26⟩) (by assumption) ?rp2x26
    case yp2x26 =>
      intro w hSw
      try dsimp only at hSw
      first | (go_simp; done) | (go_simp; with_reducible rfl)
    try simp only [Act.put, List.setIfInBounds_toArray, List.set_cons_zero, List.set_cons_succ]
    refine wpAnyH_take (i := 27) (oi := ⟨some 67, _, _, _, _, _⟩) (v := ?vp2x27) rfl (by kernel_rfl) (by kernel_rfl) (by kernel_rfl) (fun _ _ _ h => h) (Or.inl ⟨by kernel_rfl, ?yp2x27⟩) (by assumption) ?rp2x27
    case yp2x27 =>
      intro w hSw
      try dsimp only at hSw
      first | (go_simp; done) | (go_simp; with_reducible rfl)
    try simp only [Act.put, List.setIfInBounds_toArray, List.set_cons_zero, List.set_cons_succ]
    refine wpAnyH_take (i := 28) (oi := ⟨some 68, _, _, _, _, _⟩) (v := ?vp2x28) rfl (by kernel_rfl) (by kernel_rfl) (by kernel_rfl) (fun _ _ _ h => h) (Or.inl ⟨by kernel_rfl, ?yp2x28⟩) (by assumption) ?rp2x28
    case yp2x28 =>
      intro w hSw
      try dsimp only at hSw
      first | (go_simp; done) | (go_simp; with_reducible rfl)
    try simp only [Act.put, List.setIfInBounds_toArray, List.set_cons_zero, List.set_cons_succ]
    refine wpAnyH_take (i := 29) (oi := ⟨some 69, _, _, _, _, _⟩) (v := ?vp2x29) rfl (by kernel_rfl) (by kernel_rfl) (by kernel_rfl) (fun _ _ _ h => h) (Or.inl ⟨by kernel_rfl, ?yp2x29⟩) (by assumption) ?rp2x29
    case yp2x29 =>
      intro w hSw
      try dsimp only at hSw
      first | (go_simp; done) | (go_simp; with_reducible rfl)
    try simp only [Act.put, List.setIfInBounds_toArray, List.set_cons_zero, List.set_cons_succ]
    refine wpAnyH_ready (rs := [30]) (by kernel_rfl) (by simp) ?_
    refine AllReadyH.cons (i := 30) (o := ⟨some 70, _, _, _, _, _⟩) rfl (fun K hK => ?_) AllReadyH.nil
    go_simp
    go_at_call 16
    refine (IN.out _ (HTV.out _ (six_z (by assumption)))).mono ?_
    rintro e wp ⟨rfl, hb⟩
    go_wp2_with fail
    refine hK.out _ _ ?_ (fun hHeld => ?_)
    · exact kept_six (by assumption) hb
    clear hK K
    clear hb
    try simp only [Act.put, List.setIfInBounds_toArray, List.set_cons_zero, List.set_cons_succ]
    refine wpAnyH_take (i := 31) (oi := ⟨some 71, _, _, _, _, _⟩) (v := ?vp2x31) rfl (by kernel_rfl) (by kernel_rfl) (by kernel_rfl) (fun _ _ _ h => h) (Or.inl ⟨by kernel_rfl, ?yp2x31⟩) (by assumption) ?rp2x31
    case yp2x31 =>
      intro w hSw
      try dsimp only at hSw
      first | (go_simp; done) | (go_simp; with_reducible rfl)
    try simp only [Act.put, List.setIfInBounds_toArray, List.set_cons_zero, List.set_cons_succ]
    refine wpAnyH_ready (rs := [32]) (by kernel_rfl) (by simp) ?_
    refine AllReadyH.cons (i := 32) (o := ⟨some 72, _, _, _, _, _⟩) rfl (fun K hK => ?_) AllReadyH.nil
    go_simp
    go_at_call 14
    refine ((E2.out _ (HEV.out _ (six_z (by assumption))))).mono ?_
    rintro e wp ⟨rfl, hb⟩
    go_wp2_with fail
    refine hK.out _ _ ?_ (fun hHeld => ?_)
    · exact kept_six (by assumption) hb
    clear hK K
    clear hb
    try simp only [Act.put, List.setIfInBounds_toArray, List.set_cons_zero, List.set_cons_succ]
    refine wpAnyH_take (i := 33) (oi := ⟨some 73, _, _, _, _, _⟩) (v := ?vp2x33) rfl (by kernel_rfl) (by kernel_rfl) (by kernel_rfl) (fun _ _ _ h => h) (Or.inl ⟨by kernel_rfl, ?yp2x33⟩) (by assumption) ?rp2x33
    case yp2x33 =>
      intro w hSw
      try dsimp only at hSw
      first | (go_simp; done) | (go_simp; with_reducible rfl)
    try simp only [Act.put, List.setIfInBounds_toArray, List.set_cons_zero, List.set_cons_succ]
    refine wpAnyH_take (i := 34) (oi := ⟨some 74, _, _, _, _, _⟩) (v := ?vp2x34) rfl (by kernel_rfl) (by kernel_rfl) (by kernel_rfl) (fun _ _ _ h => h) (Or.inl ⟨by kernel_rfl, ?yp2x34⟩) (by assumption) ?rp2x34
    case yp2x34 =>
      intro w hSw
      try dsimp only at hSw
      first | (go_simp; done) | (go_simp; with_reducible rfl)
    try simp only [Act.put, List.setIfInBounds_toArray, List.set_cons_zero, List.set_cons_succ]
    refine wpAnyH_take (i := 35) (oi := ⟨some 75, _, _, _, _, _⟩) (v := ?vp2x35) rfl (by kernel_rfl) (by kernel_rfl) (by kernel_rfl) (fun _ _ _ h => h) (Or.inl ⟨by kernel_rfl, ?yp2x35⟩) (by assumption) ?rp2x35
    case yp2x35 =>
      intro w hSw
      try dsimp only at hSw
      first | (go_simp; done) | (go_simp; with_reducible rfl)
    try simp only [Act.put, List.setIfInBounds_toArray, List.set_cons_zero, List.set_cons_succ]
    refine wpAnyH_take (i := 36) (oi := ⟨some 76, _, _, _, _, _⟩) (v := ?vp2x36) rfl (by kernel_rfl) (by kernel_rfl) (by kernel_rfl) (fun _ _ _ h => h) (Or.inl ⟨by kernel_rfl, ?yp2x36⟩) (by assumption) ?rp2x36
    case yp2x36 =>
      intro w hSw
      try dsimp only at hSw
      first | (go_simp; done) | (go_simp; with_reducible rfl)
    try simp only [Act.put, List.setIfInBounds_toArray, List.set_cons_zero, List.set_cons_succ]
    refine wpAnyH_take (i := 37) (oi := ⟨some 77, _, _, _, _, _⟩) (v := ?vp2x37) rfl (by kernel_rfl) (by kernel_rfl) (by kernel_rfl) (fun _ _ _ h => h) (Or.inl ⟨by kernel_rfl, ?yp2x37⟩) (by assumption) ?rp2x37
    case yp2x37 =>
      intro w hSw
      try dsimp only at hSw
      first | (go_simp; done) | (go_simp; with_reducible rfl)
    try simp only [Act.put, List.setIfInBounds_toArray, List.set_cons_zero, List.set_cons_succ]
    refine wpAnyH_take (i := 38) (oi := ⟨some 78, _, _, _, _, _⟩) (v := ?vp2x38) rfl (by kernel_rfl) (by kernel_rfl) (by kernel_rfl) (fun _ _ _ h => h) (Or.inl ⟨by kernel_rfl, ?yp2x38⟩) (by assumption) ?rp2x38
    case yp2x38 =>
      intro w hSw
      try dsimp only at hSw
      first | (go_simp; done) | (go_simp; with_reducible rfl)
    try simp only [Act.put, List.setIfInBounds_toArray, List.set_cons_zero, List.set_cons_succ]
    refine wpAnyH_take (i := 39) (oi := ⟨some 79, _, _, _, _, _⟩) (v := ?vp2x39) rfl (by kernel_rfl) (by kernel_rfl) (by kernel_rfl) (fun _ _ _ h => h) (Or.inl ⟨by kernel_rfl, ?yp2x39⟩) (by assumption) ?rp2x39
    case yp2x39 =>
      intro w hSw
      try dsimp only at hSw
      first | (go_simp; done) | (go_simp; with_reducible rfl)
    try simp only [Act.put, List.setIfInBounds_toArray, List.set_cons_zero, List.set_cons_succ]
    refine wpAnyH_take (i := 40) (oi := ⟨some 80, _, _, _, _, _⟩) (v := ?vp2x40) rfl (by kernel_rfl) (by kernel_rfl) (by kernel_rfl) (fun _ _ _ h => h) (Or.inl ⟨by kernel_rfl, ?yp2x40⟩) (by assumption) ?rp2x40
    case yp2x40 =>
      intro w hSw
      try dsimp only at hSw
      first | (go_simp; done) | (go_simp; with_reducible rfl)
    try simp only [Act.put, List.setIfInBounds_toArray, List.set_cons_zero, List.set_cons_succ]
    refine wpAnyH_ready (rs := [41]) (by kernel_rfl) (by simp) ?_
    refine AllReadyH.cons (i := 41) (o := ⟨some 81, _, _, _, _, _⟩) rfl (fun K hK => ?_) AllReadyH.nil
    go_simp
    go_at_call 14
    refine ((E3.out _ (HEV.out _ (six_z (by assumption))))).mono ?_
    rintro e wp ⟨rfl, hb⟩
    go_wp2_with fail
    refine hK.out _ _ ?_ (fun hHeld => ?_)
    · exact kept_six (by assumption) hb
    clear hK K
    clear hb
    try simp only [Act.put, List.setIfInBounds_toArray, List.set_cons_zero, List.set_cons_succ]
    refine wpAnyH_take (i := 42) (oi := ⟨some 82, _, _, _, _, _⟩) (v := ?vp2x42) rfl (by kernel_rfl) (by kernel_rfl) (by kernel_rfl) (fun _ _ _ h => h) (Or.inl ⟨by kernel_rfl, ?yp2x42⟩) (by assumption) ?rp2x42
    case yp2x42 =>
      intro w hSw
      try dsimp only at hSw
      first | (go_simp; done) | (go_simp; with_reducible rfl)
    try simp only [Act.put, List.setIfInBounds_toArray, List.set_cons_zero, List.set_cons_succ]
    refine wpAnyH_take (i := 43) (oi := ⟨some 83, _, _, _, _, _⟩) (v := ?vp2x43) rfl (by kernel_rfl) (by kernel_rfl) (by kernel_rfl) (fun _ _ _ h => h) (Or.inl ⟨by kernel_rfl, ?yp2x43⟩) (by assumption) ?rp2x43
    case yp2x43 =>
      intro w hSw
      try dsimp only at hSw
      first | (go_simp; done) | (go_simp; with_reducible rfl)
    try simp only [Act.put, List.setIfInBounds_toArray, List.set_cons_zero, List.set_cons_succ]
    refine wpAnyH_take (i := 44) (oi := ⟨some 4, _, _, _, _, _⟩) (v := ?vp2x44) rfl (by kernel_rfl) (by kernel_rfl) (by kernel_rfl) (fun _ _ _ h => h) (Or.inl ⟨by kernel_rfl, ?yp2x44⟩) (by assumption) ?rp2x44
    case yp2x44 =>
      intro w hSw
      try dsimp only at hSw
      first | (go_simp; done) | (go_simp; with_reducible rfl)
    try simp only [Act.put, List.setIfInBounds_toArray, List.set_cons_zero, List.set_cons_succ]
    refine wpAnyH_done (by kernel_rfl) ?_ _
    have HZ2 := Lib.hid (six_z hHeld)
    go_wp2_with fail
    go_ret
    exact ⟨rfl, HZ2.out⟩
end Go.Proofs.YteeajhnbifpklaaDoor
