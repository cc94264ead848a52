/- Contracts over this seat's program: the document's terms: AsInt, AsBool, known, Equal, Less. Every term (texts up to 6000 bytes). -/
import Derived.Test.YteeajhnbifpklaaGreatDoorRfParse
import Derived.Test.YteeajhnbifpklaaGreatDoorTmOrd
namespace Go.Proofs.YteeajhnbifpklaaGreatDoor
open Go Go.RowKit
set_option linter.unusedVariables false
set_option linter.unusedSimpArgs false
set_option maxRecDepth 100000
/-- a term as the document's value -/
def rV (X : Tm) : Value := .agg #[.int .i64 (kindV X), .string (text0 X), .string (text1 X), .string (text2 X)]
theorem plain_rV (k : Int) (x t l : ByteArray) : plainR k x t l = rV (termOf k x t l) := by
  unfold plainR termOf
  rcases (by omega : k % 4 = 0 ∨ k % 4 = 1 ∨ k % 4 = 2 ∨ k % 4 = 3) with h | h | h | h <;> rw [h] <;> rfl
theorem bigV_set1 {w : World} {p : Addr} {v0 v u : Value} {X : Int} (h : BigV w u X) (hp : w.cell? p = some v0) (hn : ∀ z, v0 ≠ .int .i64 z) : BigV (w.setCell p v) u X := by
  obtain ⟨s', ds, h1, ⟨a', cap', h2, h3, h4, h5⟩, h6⟩ := h
  refine ⟨s', ds, h1, ⟨a', cap', h2, h3, h4, fun j hj => ?_⟩, h6⟩
  obtain ⟨g, off, e1, e2⟩ := h5 j hj
  refine ⟨g, off, e1, ?_⟩
  rw [World.cell?_setCell_other _ _ _ _ ?_]
  · exact e2
  · rintro rfl
    rw [e2] at hp
    exact hn _ (Option.some.inj hp).symm
theorem big_form {w : World} {v : Value} {N : Int} (h : BigV w v N) : ∃ s a n c, v = .agg #[.bool s, .slice a n c] := by
  obtain ⟨a, cap, ds, rfl, _⟩ := big_parts h
  exact ⟨_, _, _, _, rfl⟩
theorem kind_lit {X : Tm} (h : kindV X = 2) : ∃ s t l, X = .lit s t l := by
  cases X with
  | lit s t l => exact ⟨s, t, l, rfl⟩
  | blank s => exact absurd (show (0 : Int) = 2 from h) (by decide)
  | iri s => exact absurd (show (1 : Int) = 2 from h) (by decide)
  | odd n => exact absurd (show (3 : Int) = 2 from h) (by decide)
  | none => exact absurd (show (3 : Int) = 2 from h) (by decide)
theorem ai_kind {X : Tm} (h : kindV X ≠ 2) : aiE X = 10 ∧ aiN X = 0 ∧ abE X = 10 ∧ abV X = false := by
  cases X with
  | lit s t l => exact absurd rfl h
  | _ => exact ⟨rfl, rfl, rfl, rfl⟩
theorem nP_in (l : List UInt8) : -9223372036854775808 ≤ nP l ∧ nP l ≤ 9223372036854775807 := by
  unfold nP
  cases h1 : isNum l
  · simp
  · cases h2 : fits (numT l)
    · simp
    · exact (fits_iff _).1 h2
theorem aiN_in (X : Tm) : -9223372036854775808 ≤ aiN X ∧ aiN X ≤ 9223372036854775807 := by
  cases X with
  | lit s t l =>
    have h := nP_in s.data.toList
    show -9223372036854775808 ≤ (if isInt t then nP s.data.toList else 0) ∧ (if isInt t then nP s.data.toList else 0) ≤ 9223372036854775807
    split
    · exact h
    · omega
  | _ => exact ⟨by show (-9223372036854775808 : Int) ≤ 0; omega, by show (0 : Int) ≤ 9223372036854775807; omega⟩
def RaRes (X : Tm) (w : World) (e : Ending) (w' : World) : Prop := ∃ b, e = .returned (.tuple #[b, .int .i64 (aiE X)]) ∧ BigV w' b (aiN X) ∧ Below w.heap.size w w'
set_option maxHeartbeats 3200000 in
theorem rasint_any (X : Tm) (w : World) (hz : (text0 X).size ≤ 6000) : Calls Tryz.prog 10 #[rV X] w (RaRes X w) := by
  by_cases hk : kindV X = 2
  · obtain ⟨s, t, l, rfl⟩ := kind_lit hk
    have PX := Lib.hid (fun w => refparse_any s hz w)
    show Calls Tryz.prog 10 #[.agg #[.int .i64 2, .string s, .string t, .string l]] w fun e w' => ∃ b, e = .returned (.tuple #[b, .int .i64 (if isInt t then (if eP s.data.toList = 1 then 3 else eP s.data.toList) else 10)]) ∧ BigV w' b (if isInt t then nP s.data.toList else 0) ∧ Below w.heap.size w w'
    obtain ⟨N, hN⟩ : ∃ N, N = nP s.data.toList := ⟨_, rfl⟩
    obtain ⟨E, hE⟩ : ∃ E, E = eP s.data.toList := ⟨_, rfl⟩
    simp only [← hN, ← hE] at PX ⊢
    clear hN hE hz hk
    unfold isInt xIntB
    cases hi : t.toList == [104, 116, 116, 112, 58, 47, 47, 119, 119, 119, 46, 119, 51, 46, 111, 114, 103, 47, 50, 48, 48, 49, 47, 88, 77, 76, 83, 99, 104, 101, 109, 97, 35, 105, 110, 116, 101, 103, 101, 114] with
    | false =>
      simp only [Bool.false_eq_true, if_false]
      clear PX
      go_enter Tryz.func10, Tryz.ntmps10
      go_wp2_with fail
      refine bodyPost_ret (v := .tuple #[.agg #[.bool false, .slice none 0 0], .int .i64 10]) (by simp [results, Tryz.results10, go_sem]) rfl ?_
      exact ⟨_, rfl, big_zero _, by go_grown⟩
    | true =>
      simp only [if_true]
      by_cases h1 : E = 1
      · rw [if_pos h1]
        subst h1
        go_enter Tryz.func10, Tryz.ntmps10
        go_wp2_with fail
        refine (PX.out _).mono ?_
        rintro e w2 ⟨b, rfl, hv2, hb2⟩
        obtain ⟨s1, a1, n1, c1, rfl⟩ := big_form hv2
        have r0 : w2.cell? ⟨w.heap.size + 1, 0, none⟩ = some (.bool false) := cell_below (by simp [go_sem]) hb2
        have r1 : w2.cell? ⟨w.heap.size + 1, 1, none⟩ = some (.slice none 0 0) := cell_below (by simp [go_sem]) hb2
        have f0 : w2.frozen? ⟨w.heap.size + 1, 0, none⟩ = false := (hb2.frozen (by simp)).trans (by simp [go_sem])
        have f1 : w2.frozen? ⟨w.heap.size + 1, 1, none⟩ = false := (hb2.frozen (by simp)).trans (by simp [go_sem])
        have hlt : w.heap.size + 1 < w2.heap.size := block_lt_of_cell r0
        have HB : Hid (Below w.heap.size w w2) := Lib.hid ((((Below.refl w.heap.size w).alloc (Nat.le_refl _) _).alloc (by simp) _).trans (hb2.mono (by simp; omega)))
        have HV2 := Lib.hid hv2
        clear hv2 hb2
        go_wp2_with fail
        have q0 := (two_cells (x := .bool s1) (y := .slice a1 n1 c1) (w := w2) (b := w.heap.size + 1) r0 r1)
        have hne : w.heap.size + 1 ≠ ((w2.setCell ⟨w.heap.size + 1, 0, none⟩ (.bool s1)).setCell ⟨w.heap.size + 1, 1, none⟩ (.slice a1 n1 c1)).heap.size := Nat.ne_of_lt (by simpa using hlt)
        have e0 := (World.cell?_alloc_old ((w2.setCell ⟨w.heap.size + 1, 0, none⟩ (.bool s1)).setCell ⟨w.heap.size + 1, 1, none⟩ (.slice a1 n1 c1)) (.cells #[.bool s1, .slice a1 n1 c1] 37) ⟨w.heap.size + 1, 0, none⟩ hne).trans q0.1
        have e1 := (World.cell?_alloc_old ((w2.setCell ⟨w.heap.size + 1, 0, none⟩ (.bool s1)).setCell ⟨w.heap.size + 1, 1, none⟩ (.slice a1 n1 c1)) (.cells #[.bool s1, .slice a1 n1 c1] 37) ⟨w.heap.size + 1, 1, none⟩ hne).trans q0.2
        have HQ : Hid (BigV (((w2.setCell ⟨w.heap.size + 1, 0, none⟩ (.bool s1)).setCell ⟨w.heap.size + 1, 1, none⟩ (.slice a1 n1 c1)).alloc (.cells #[.bool s1, .slice a1 n1 c1] 37)) (.agg #[.bool s1, .slice a1 n1 c1]) N) := Lib.hid (bigV_below (bigV_set1 (bigV_set1 HV2.out r0 (fun z h => by cases h)) ((World.cell?_setCell_other _ _ _ _ (by simp)).trans r1) (fun z h => by cases h)) ((Below.refl _ _).alloc (Nat.le_refl _) _))
        have HZ : Hid (Below w.heap.size w (((w2.setCell ⟨w.heap.size + 1, 0, none⟩ (.bool s1)).setCell ⟨w.heap.size + 1, 1, none⟩ (.slice a1 n1 c1)).alloc (.cells #[.bool s1, .slice a1 n1 c1] 37))) := Lib.hid (((HB.out.setCell (p := ⟨w.heap.size + 1, 0, none⟩) (by simp) _).setCell (p := ⟨w.heap.size + 1, 1, none⟩) (by simp) _).alloc (by simpa using HB.out.size) _)
        refine bodyPost_ret (v := .tuple #[.agg #[.bool s1, .slice a1 n1 c1], .int .i64 3]) (by simp [results, Tryz.results10, go_sem, e0, e1]) rfl ?_
        exact ⟨_, rfl, HQ.out, HZ.out⟩
      · rw [if_neg h1]
        have h2 : (E == 1) = false := beq_eq_false_iff_ne.mpr h1
        clear h1
        go_enter Tryz.func10, Tryz.ntmps10
        go_wp2_with fail
        refine (PX.out _).mono ?_
        rintro e w2 ⟨b, rfl, hv2, hb2⟩
        obtain ⟨s1, a1, n1, c1, rfl⟩ := big_form hv2
        have r0 : w2.cell? ⟨w.heap.size + 1, 0, none⟩ = some (.bool false) := cell_below (by simp [go_sem]) hb2
        have r1 : w2.cell? ⟨w.heap.size + 1, 1, none⟩ = some (.slice none 0 0) := cell_below (by simp [go_sem]) hb2
        have f0 : w2.frozen? ⟨w.heap.size + 1, 0, none⟩ = false := (hb2.frozen (by simp)).trans (by simp [go_sem])
        have f1 : w2.frozen? ⟨w.heap.size + 1, 1, none⟩ = false := (hb2.frozen (by simp)).trans (by simp [go_sem])
        have hlt : w.heap.size + 1 < w2.heap.size := block_lt_of_cell r0
        have HB : Hid (Below w.heap.size w w2) := Lib.hid ((((Below.refl w.heap.size w).alloc (Nat.le_refl _) _).alloc (by simp) _).trans (hb2.mono (by simp; omega)))
        have HV2 := Lib.hid hv2
        clear hv2 hb2
        go_wp2_with fail
        have q0 := (two_cells (x := .bool s1) (y := .slice a1 n1 c1) (w := w2) (b := w.heap.size + 1) r0 r1)
        have hne : w.heap.size + 1 ≠ ((w2.setCell ⟨w.heap.size + 1, 0, none⟩ (.bool s1)).setCell ⟨w.heap.size + 1, 1, none⟩ (.slice a1 n1 c1)).heap.size := Nat.ne_of_lt (by simpa using hlt)
        have e0 := (World.cell?_alloc_old ((w2.setCell ⟨w.heap.size + 1, 0, none⟩ (.bool s1)).setCell ⟨w.heap.size + 1, 1, none⟩ (.slice a1 n1 c1)) (.cells #[.bool s1, .slice a1 n1 c1] 37) ⟨w.heap.size + 1, 0, none⟩ hne).trans q0.1
        have e1 := (World.cell?_alloc_old ((w2.setCell ⟨w.heap.size + 1, 0, none⟩ (.bool s1)).setCell ⟨w.heap.size + 1, 1, none⟩ (.slice a1 n1 c1)) (.cells #[.bool s1, .slice a1 n1 c1] 37) ⟨w.heap.size + 1, 1, none⟩ hne).trans q0.2
        have HQ : Hid (BigV (((w2.setCell ⟨w.heap.size + 1, 0, none⟩ (.bool s1)).setCell ⟨w.heap.size + 1, 1, none⟩ (.slice a1 n1 c1)).alloc (.cells #[.bool s1, .slice a1 n1 c1] 37)) (.agg #[.bool s1, .slice a1 n1 c1]) N) := Lib.hid (bigV_below (bigV_set1 (bigV_set1 HV2.out r0 (fun z h => by cases h)) ((World.cell?_setCell_other _ _ _ _ (by simp)).trans r1) (fun z h => by cases h)) ((Below.refl _ _).alloc (Nat.le_refl _) _))
        have HZ : Hid (Below w.heap.size w (((w2.setCell ⟨w.heap.size + 1, 0, none⟩ (.bool s1)).setCell ⟨w.heap.size + 1, 1, none⟩ (.slice a1 n1 c1)).alloc (.cells #[.bool s1, .slice a1 n1 c1] 37))) := Lib.hid (((HB.out.setCell (p := ⟨w.heap.size + 1, 0, none⟩) (by simp) _).setCell (p := ⟨w.heap.size + 1, 1, none⟩) (by simp) _).alloc (by simpa using HB.out.size) _)
        refine bodyPost_ret (v := .tuple #[.agg #[.bool s1, .slice a1 n1 c1], .int .i64 E]) (by simp [results, Tryz.results10, go_sem, e0, e1]) rfl ?_
        exact ⟨_, rfl, HQ.out, HZ.out⟩
  · obtain ⟨e1, e2, _, _⟩ := ai_kind hk
    unfold RaRes
    rw [e1, e2]
    unfold rV
    generalize kindV X = k at *
    generalize text0 X = s at *
    generalize text1 X = t at *
    generalize text2 X = l at *
    have h2 : (k != 2) = true := by simpa using hk
    clear hk hz e1 e2
    go_enter Tryz.func10, Tryz.ntmps10
    go_wp2_with fail
    refine bodyPost_ret (v := .tuple #[.agg #[.bool false, .slice none 0 0], .int .i64 10]) (by simp [results, Tryz.results10, go_sem]) rfl ?_
    exact ⟨_, rfl, big_zero _, by go_grown⟩
set_option maxHeartbeats 3200000 in
theorem rasbool_any (X : Tm) (w : World) : Calls Tryz.prog 11 #[rV X] w fun e w' => e = .returned (.tuple #[.bool (abV X), .int .i64 (abE X)]) ∧ Below w.heap.size w w' := by
  by_cases hk : kindV X = 2
  · obtain ⟨s, t, l, rfl⟩ := kind_lit hk
    clear hk
    show Calls Tryz.prog 11 #[.agg #[.int .i64 2, .string s, .string t, .string l]] w fun e w' => e = .returned (.tuple #[.bool (isBool t && isTrue s), .int .i64 (if isBool t then (if isTrue s then 0 else if isFalse s then 0 else 3) else 10)]) ∧ Below w.heap.size w w'
    unfold isTrue isFalse isBool xBoolB
    cases hi : t.toList == [104, 116, 116, 112, 58, 47, 47, 119, 119, 119, 46, 119, 51, 46, 111, 114, 103, 47, 50, 48, 48, 49, 47, 88, 77, 76, 83, 99, 104, 101, 109, 97, 35, 98, 111, 111, 108, 101, 97, 110] with
    | false =>
      simp only [Bool.false_eq_true, if_false, Bool.false_and]
      go_enter Tryz.func11, Tryz.ntmps11
      go_wp2_with fail
      go_ret2
      exact ⟨rfl, by go_grown⟩
    | true =>
      simp only [if_true, Bool.true_and]
      cases h1 : s.toList == [116, 114, 117, 101] with
      | true =>
        simp only [Bool.true_or, if_true]
        go_enter Tryz.func11, Tryz.ntmps11
        go_wp2_with fail
        go_ret2
        exact ⟨rfl, by go_grown⟩
      | false =>
        cases h2 : s.toList == [49] with
        | true =>
          simp only [Bool.false_or, if_true]
          go_enter Tryz.func11, Tryz.ntmps11
          go_wp2_with fail
          go_ret2
          exact ⟨rfl, by go_grown⟩
        | false =>
          simp only [Bool.false_or, Bool.false_eq_true, if_false]
          cases h3 : s.toList == [102, 97, 108, 115, 101] with
          | true =>
            simp only [Bool.true_or, if_true]
            go_enter Tryz.func11, Tryz.ntmps11
            go_wp2_with fail
            go_ret2
            exact ⟨rfl, by go_grown⟩
          | false =>
            cases h4 : s.toList == [48] with
            | true =>
              simp only [Bool.false_or, if_true]
              go_enter Tryz.func11, Tryz.ntmps11
              go_wp2_with fail
              go_ret2
              exact ⟨rfl, by go_grown⟩
            | false =>
              simp only [Bool.false_or, Bool.false_eq_true, if_false]
              go_enter Tryz.func11, Tryz.ntmps11
              go_wp2_with fail
              go_ret2
              exact ⟨rfl, by go_grown⟩
  · obtain ⟨_, _, e1, e2⟩ := ai_kind hk
    rw [e1, e2]
    unfold rV
    generalize kindV X = k at *
    generalize text0 X = s at *
    generalize text1 X = t at *
    generalize text2 X = l at *
    have h2 : (k != 2) = true := by simpa using hk
    clear hk e1 e2
    go_enter Tryz.func11, Tryz.ntmps11
    go_wp2_with fail
    go_ret2
    exact ⟨rfl, by go_grown⟩
theorem eq_struct2 (T : TypeId) (xs ys : Array Value) (m : List (Bool × TypeId × Nat)) (w : World) (ht : Tryz.prog.underlying T = some (.struct (Tryz.prog.fieldsOf T))) (hp : Tryz.prog.stoodInHeld T = false)
    (hm : ((Tryz.prog.fieldsOf T).toList.map fun f => (f.name != "_", f.type, f.offset)) = m) :
    (Op.equalIn 10000 T (.agg xs) (.agg ys)).run Tryz.prog w = (eqM 9999 xs ys m).run Tryz.prog w := by
  rw [run_equalIn_agg w 9999 T xs ys ht hp, eqF_eqM, hm]
theorem eq_ref (X Y : Tm) (w : World) : (Go.binOp BinOp.eql 23 (rV X) (rV Y)).run Tryz.prog w = .ok (.bool (eqR X Y)) w := by
  unfold rV eqR sameS
  generalize kindV X = k
  generalize kindV Y = k'
  generalize text0 X = s
  generalize text0 Y = s'
  generalize text1 X = t
  generalize text1 Y = t'
  generalize text2 X = l
  generalize text2 Y = l'
  have p : ∀ w, (Op.equalIn 10000 23 (.agg #[.int .i64 k, .string s, .string t, .string l]) (.agg #[.int .i64 k', .string s', .string t', .string l'])).run Tryz.prog w = .ok (decide (k = k') && (s.toList == s'.toList && (t.toList == t'.toList && l.toList == l'.toList))) w := fun w => by
    rw [eq_struct2 _ _ _ [(true, 3, 0), (true, 9, 1), (true, 9, 2), (true, 9, 3)] w (by kernel_rfl) (by kernel_rfl) (by kernel_rfl)]
    have p0 : ∀ w, (part 3 #[.int .i64 k, .string s, .string t, .string l] 0).run Tryz.prog w = .ok (.int .i64 k) w := fun w => by kernel_rfl
    have r0 : ∀ w, (part 3 #[.int .i64 k', .string s', .string t', .string l'] 0).run Tryz.prog w = .ok (.int .i64 k') w := fun w => by kernel_rfl
    have q0 : ∀ w, (Op.equalIn 9999 3 (.int .i64 k) (.int .i64 k')).run Tryz.prog w = .ok (k == k') w := fun w => run_equalIn_int w 9998 _ .i64 .i64 k k' Tryz.underlying3
    have p1 : ∀ w, (part 9 #[.int .i64 k, .string s, .string t, .string l] 1).run Tryz.prog w = .ok (.string s) w := fun w => by kernel_rfl
    have r1 : ∀ w, (part 9 #[.int .i64 k', .string s', .string t', .string l'] 1).run Tryz.prog w = .ok (.string s') w := fun w => by kernel_rfl
    have q1 : ∀ w, (Op.equalIn 9999 9 (.string s) (.string s')).run Tryz.prog w = .ok (s.toList == s'.toList) w := fun w => run_equalIn_string w 9998 _ s s' Tryz.underlying9
    have p2 : ∀ w, (part 9 #[.int .i64 k, .string s, .string t, .string l] 2).run Tryz.prog w = .ok (.string t) w := fun w => by kernel_rfl
    have r2 : ∀ w, (part 9 #[.int .i64 k', .string s', .string t', .string l'] 2).run Tryz.prog w = .ok (.string t') w := fun w => by kernel_rfl
    have q2 : ∀ w, (Op.equalIn 9999 9 (.string t) (.string t')).run Tryz.prog w = .ok (t.toList == t'.toList) w := fun w => run_equalIn_string w 9998 _ t t' Tryz.underlying9
    have p3 : ∀ w, (part 9 #[.int .i64 k, .string s, .string t, .string l] 3).run Tryz.prog w = .ok (.string l) w := fun w => by kernel_rfl
    have r3 : ∀ w, (part 9 #[.int .i64 k', .string s', .string t', .string l'] 3).run Tryz.prog w = .ok (.string l') w := fun w => by kernel_rfl
    have q3 : ∀ w, (Op.equalIn 9999 9 (.string l) (.string l')).run Tryz.prog w = .ok (l.toList == l'.toList) w := fun w => run_equalIn_string w 9998 _ l l' Tryz.underlying9
    simp only [eqM, if_true, Sem.run_bind, p0, r0, q0, p1, r1, q1, p2, r2, q2, p3, r3, q3, Result.andThen_ok, Sem.run_ite, Sem.run_pure]
    by_cases g : k = k'
    · rw [show (k == k') = true from by simpa using g, decide_eq_true g]
      cases h0 : s.toList == s'.toList <;> cases h1 : t.toList == t'.toList <;> cases h2 : l.toList == l'.toList <;> simp [Sem.run_pure]
    · rw [show (k == k') = false from by simpa using g, decide_eq_false g]
      simp [Sem.run_pure]
  simp only [binOp]
  simp [Op.equal, Op.maxDepth, p]
end Go.Proofs.YteeajhnbifpklaaGreatDoor
