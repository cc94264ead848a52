/- The law TermMakes: its walk. Every integer, truth, text. -/
import Derived.Test.YteeajhnbifpklaaDoorTmIntP
import Derived.Test.YteeajhnbifpklaaDoorTgGood
import Derived.Test.YteeajhnbifpklaaDoorRfText
import Derived.Test.YteeajhnbifpklaaDoorTmAwake
import Derived.Test.YteeajhnbifpklaaDoorTvLaid2
import Derived.Test.YteeajhnbifpklaaDoorTgShape
namespace Go.Proofs.YteeajhnbifpklaaDoor
open Go Go.RowKit
set_option linter.unusedVariables false
set_option linter.unusedSimpArgs false
set_option maxRecDepth 100000
theorem mplain_any (s : ByteArray) (w : World) : Calls Tryd.prog 18 #[.string s] w fun e w' => e = .returned (.agg #[.string s, .string ⟨#[104, 116, 116, 112, 58, 47, 47, 119, 119, 119, 46, 119, 51, 46, 111, 114, 103, 47, 50, 48, 48, 49, 47, 88, 77, 76, 83, 99, 104, 101, 109, 97, 35, 115, 116, 114, 105, 110, 103]⟩, .string ⟨#[]⟩]) ∧ Below w.heap.size w w' := by
  go_enter Tryd.func18, Tryd.ntmps18
  go_wp2
  refine bodyPost_ret (v := .agg #[.string s, .string ⟨#[104, 116, 116, 112, 58, 47, 47, 119, 119, 119, 46, 119, 51, 46, 111, 114, 103, 47, 50, 48, 48, 49, 47, 88, 77, 76, 83, 99, 104, 101, 109, 97, 35, 115, 116, 114, 105, 110, 103]⟩, .string ⟨#[]⟩]) (by simp [results, Tryd.results18, go_sem]) rfl ?_
  exact ⟨rfl, by go_grown⟩
theorem asc_read (b : ByteArray) (h : ∀ c ∈ b.data.toList, c.toNat < 128) : ∃ L, Read b.data.toList L [] := by
  refine ⟨b.data.toList.map (fun c => (c.toNat : Int)), ?_, ?_, noSign_nil⟩
  · rw [List.append_nil]
    generalize b.data.toList = l at h
    induction l with
    | nil => rfl
    | cons c r ih =>
      rw [List.map_cons, textB_cons, ← ih (fun x hx => h x (by simp [hx]))]
      have hc := h c (by simp)
      have : enc (c.toNat : Int) = [c] := by
        refine map_bz_inj ?_
        rw [enc_bz, Lib.encodeRuneZ_one (by omega) (by omega)]
        rfl
      rw [this]; rfl
  · intro n hn
    obtain ⟨c, hc, rfl⟩ := List.mem_map.1 hn
    exact .inl (by have := h c hc; omega)
theorem dig_ascii {l : List UInt8} (h : l.all isDig = true) : ∀ c ∈ l, c.toNat < 128 := fun c hc => by
  have := (isDig_iff c).1 (List.all_eq_true.1 h c hc)
  omega
theorem itoa_ascii (n : Int) : ∀ c ∈ Lib.itoa n, c.toNat < 128 := by
  intro c hc
  unfold Lib.itoa at hc
  split at hc
  · rcases List.mem_cons.1 hc with rfl | h
    · decide
    · exact dig_ascii (dec_all n.natAbs).1 c h
  · exact dig_ascii (dec_all n.toNat).1 c hc
theorem bool_ascii (y : Bool) : ∀ c ∈ (boolB y).data.toList, c.toNat < 128 := by cases y <;> decide
theorem empty_sum : ((⟨#[]⟩ : ByteArray) ++ ⟨#[]⟩ ++ ⟨#[]⟩).toList.isEmpty = true := by rw [Lib.toList_data]; decide +kernel
theorem iri_xI : iriV xInt xIntL [] = true := by decide +kernel
def xBoolL : List Int := [104, 116, 116, 112, 58, 47, 47, 119, 119, 119, 46, 119, 51, 46, 111, 114, 103, 47, 50, 48, 48, 49, 47, 88, 77, 76, 83, 99, 104, 101, 109, 97, 35, 98, 111, 111, 108, 101, 97, 110]
def xStringL : List Int := [104, 116, 116, 112, 58, 47, 47, 119, 119, 119, 46, 119, 51, 46, 111, 114, 103, 47, 50, 48, 48, 49, 47, 88, 77, 76, 83, 99, 104, 101, 109, 97, 35, 115, 116, 114, 105, 110, 103]
theorem read_xB : Read xBool.data.toList xBoolL [] := read_ascii _ _ (by decide +kernel) (by decide +kernel)
theorem read_xS : Read xString.data.toList xStringL [] := read_ascii _ _ (by decide +kernel) (by decide +kernel)
theorem iri_xB : iriV xBool xBoolL [] = true := by decide +kernel
theorem size_int {n : Int} (h : Fit n) : (intB n).size ≤ 100 := by
  have h := Lib.itoa_length_le n h.1 h.2
  have e : (intB n).size = (Lib.itoa n).length := by rw [Lib.size_eq]; rfl
  omega
theorem size_bool (y : Bool) : (boolB y).size ≤ 100 := by cases y <;> decide
theorem litG_int {n : Int} (h : Fit n) : litG (intB n) [] xInt xIntL [] ⟨#[]⟩ = true := by
  unfold litG
  rw [iri_xI, decide_eq_true (show (intB n).size ≤ 4096 by have := size_int h; omega), Lib.toList_data]
  decide +kernel
theorem litG_bool (y : Bool) : litG (boolB y) [] xBool xBoolL [] ⟨#[]⟩ = true := by
  unfold litG
  rw [iri_xB, decide_eq_true (show (boolB y).size ≤ 4096 by have := size_bool y; omega), Lib.toList_data]
  decide +kernel
theorem ai_plain (s : ByteArray) : aiE (.lit s xString ⟨#[]⟩) = 10 ∧ aiN (.lit s xString ⟨#[]⟩) = 0 := by
  have : isInt xString = false := by rw [isInt_data]; decide +kernel
  constructor
  · show (if isInt xString then _ else (10 : Int)) = 10
    rw [this]; rfl
  · show (if isInt xString then _ else (0 : Int)) = 0
    rw [this]; rfl
theorem kept9 {w w1 w2 : World} {a0 a1 a2 a3 a4 a5 a6 a7 a8 : Addr} {v0 v1 v2 v3 v4 v5 v6 v7 v8 : Value} (h : w1.cell? a0 = some v0 ∧ w1.cell? a1 = some v1 ∧ w1.cell? a2 = some v2 ∧ w1.cell? a3 = some v3 ∧ w1.cell? a4 = some v4 ∧ w1.cell? a5 = some v5 ∧ w1.cell? a6 = some v6 ∧ w1.cell? a7 = some v7 ∧ w1.cell? a8 = some v8 ∧ Below w.heap.size w w1) (hb : Below w1.heap.size w1 w2) :
    w2.cell? a0 = some v0 ∧ w2.cell? a1 = some v1 ∧ w2.cell? a2 = some v2 ∧ w2.cell? a3 = some v3 ∧ w2.cell? a4 = some v4 ∧ w2.cell? a5 = some v5 ∧ w2.cell? a6 = some v6 ∧ w2.cell? a7 = some v7 ∧ w2.cell? a8 = some v8 ∧ Below w.heap.size w w2 := by
  obtain ⟨h0, h1, h2, h3, h4, h5, h6, h7, h8, z⟩ := h
  exact ⟨cell_below h0 hb, cell_below h1 hb, cell_below h2 hb, cell_below h3 hb, cell_below h4 hb, cell_below h5 hb, cell_below h6 hb, cell_below h7 hb, cell_below h8 hb, z.trans (hb.mono z.size)⟩
theorem fit_wf {n : Int} (h : (Lit.int .i64 n).wf = true) : Fit n := by
  have b0 : IntKind.min .i64 ≤ n ∧ n ≤ IntKind.max .i64 := by simpa [Lit.wf] using h
  exact b0
set_option maxHeartbeats 12800000 in
theorem makes_walk (n : Int) (y : Bool) (s : ByteArray) (w : World) (hn : Fit n) (ht : TabV w) (hv : ErrV w) (hm : MaxV w) :
    Calls Tryd.prog 5 #[.int .i64 n, .bool y, .string s] w fun e w' => e = .returned (.bool true) ∧ Below w.heap.size w w' := by
  have AW := Lib.hid (fun w hv => awake3_any w hv)
  have HEV := Lib.hid (fun w' (hb : Below w.heap.size w w') => hv.below hb)
  have HTV := Lib.hid (fun w' (hb : Below w.heap.size w w') => ht.below hb)
  have HMV := Lib.hid (fun w' (hb : Below w.heap.size w w') => hm.below hb)
  clear hv ht hm
  by_cases hbig : 5000 < s.size
  · have g1 : (5000 : Int) < s.size := by omega
    clear hbig
    go_enter Tryd.func5, Tryd.ntmps5
    go_wp2_with fail
    refine (AW.out _ (HEV.out _ (Below.refl _ _))).mono ?_
    rintro e w1 ⟨rfl, z1⟩
    go_wp2_with fail
    refine (AW.out _ (HEV.out _ z1)).mono ?_
    rintro e w2 ⟨rfl, hb2⟩
    have z2 := z1.trans (hb2.mono z1.size)
    clear hb2 z1
    go_wp2_with fail
    go_ret
    exact ⟨rfl, z2⟩
  · have g1 : ¬ (5000 : Int) < s.size := by omega
    have hs : s.size ≤ 1000000 := by omega
    obtain ⟨ls, rs, hrd⟩ := read_some s.data.toList
    obtain ⟨li, hri⟩ := asc_read (intB n) (itoa_ascii n)
    obtain ⟨lb, hrb⟩ := asc_read (boolB y) (bool_ascii y)
    have IN := Lib.hid (fun w ht => int_any n w hn.1 hn.2 ht)
    have BO := Lib.hid (fun w => bool_any y w)
    have PL := Lib.hid (fun w => mplain_any s w)
    have AIA : Hid (∀ w, ErrV w → Calls Tryd.prog 19 #[.iface 35 (.agg #[.string (intB n), .string ⟨#[104, 116, 116, 112, 58, 47, 47, 119, 119, 119, 46, 119, 51, 46, 111, 114, 103, 47, 50, 48, 48, 49, 47, 88, 77, 76, 83, 99, 104, 101, 109, 97, 35, 105, 110, 116, 101, 103, 101, 114]⟩, .string ⟨#[]⟩])] w fun e w' => e = .returned (.tuple #[.int .i64 n, .int .i64 0]) ∧ Below w.heap.size w w') := Lib.hid (fun w hv => by
      have := asint_any (litI n) w ⟨by have := size_int hn; omega, by decide +kernel, by decide +kernel⟩ hv
      rw [(ai_int hn).1, (ai_int hn).2] at this
      exact this)
    have ABB : Hid (∀ w, Calls Tryd.prog 20 #[.iface 35 (.agg #[.string (boolB y), .string ⟨#[104, 116, 116, 112, 58, 47, 47, 119, 119, 119, 46, 119, 51, 46, 111, 114, 103, 47, 50, 48, 48, 49, 47, 88, 77, 76, 83, 99, 104, 101, 109, 97, 35, 98, 111, 111, 108, 101, 97, 110]⟩, .string ⟨#[]⟩])] w fun e w' => e = .returned (.tuple #[.bool y, .int .i64 0]) ∧ Below w.heap.size w w') := Lib.hid (fun w => by
      have := asbool_any (litB y) w
      rw [(ab_bool y).1, (ab_bool y).2] at this
      exact this)
    have AIC : Hid (∀ w, ErrV w → Calls Tryd.prog 19 #[.iface 35 (.agg #[.string s, .string ⟨#[104, 116, 116, 112, 58, 47, 47, 119, 119, 119, 46, 119, 51, 46, 111, 114, 103, 47, 50, 48, 48, 49, 47, 88, 77, 76, 83, 99, 104, 101, 109, 97, 35, 115, 116, 114, 105, 110, 103]⟩, .string ⟨#[]⟩])] w fun e w' => e = .returned (.tuple #[.int .i64 0, .int .i64 10]) ∧ Below w.heap.size w w') := Lib.hid (fun w hv => by
      have := asint_any (.lit s xString ⟨#[]⟩) w ⟨hs, by decide +kernel, by decide +kernel⟩ hv
      rw [(ai_plain s).1, (ai_plain s).2] at this
      exact this)
    have RGC : Hid (∀ w, Calls Tryd.prog 21 #[.agg #[.int .i64 2, .string s, .string ⟨#[104, 116, 116, 112, 58, 47, 47, 119, 119, 119, 46, 119, 51, 46, 111, 114, 103, 47, 50, 48, 48, 49, 47, 88, 77, 76, 83, 99, 104, 101, 109, 97, 35, 115, 116, 114, 105, 110, 103]⟩, .string ⟨#[]⟩]] w fun e w' => e = .returned (.bool (litG s rs xString xStringL [] ⟨#[]⟩)) ∧ Below w.heap.size w w') := Lib.hid (fun w => rlit_any s xString ⟨#[]⟩ ls rs xStringL [] w hrd read_xS hs (by decide +kernel) (by decide +kernel))
    have LGA : Hid (∀ w, MaxV w → Calls Tryd.prog 22 #[.agg #[.string (intB n), .string ⟨#[104, 116, 116, 112, 58, 47, 47, 119, 119, 119, 46, 119, 51, 46, 111, 114, 103, 47, 50, 48, 48, 49, 47, 88, 77, 76, 83, 99, 104, 101, 109, 97, 35, 105, 110, 116, 101, 103, 101, 114]⟩, .string ⟨#[]⟩]] w fun e w' => e = .returned (.bool true) ∧ Below w.heap.size w w') := Lib.hid (fun w hm => by
      have := litgood_any (intB n) xInt ⟨#[]⟩ li [] xIntL [] w hri read_xInt (by have := size_int hn; omega) (by decide +kernel) (by decide +kernel) hm
      rw [litG_int hn] at this
      exact this)
    have LGB : Hid (∀ w, MaxV w → Calls Tryd.prog 22 #[.agg #[.string (boolB y), .string ⟨#[104, 116, 116, 112, 58, 47, 47, 119, 119, 119, 46, 119, 51, 46, 111, 114, 103, 47, 50, 48, 48, 49, 47, 88, 77, 76, 83, 99, 104, 101, 109, 97, 35, 98, 111, 111, 108, 101, 97, 110]⟩, .string ⟨#[]⟩]] w fun e w' => e = .returned (.bool true) ∧ Below w.heap.size w w') := Lib.hid (fun w hm => by
      have := litgood_any (boolB y) xBool ⟨#[]⟩ lb [] xBoolL [] w hrb read_xB (by have := size_bool y; omega) (by decide +kernel) (by decide +kernel) hm
      rw [litG_bool y] at this
      exact this)
    have LGC : Hid (∀ w, MaxV w → Calls Tryd.prog 22 #[.agg #[.string s, .string ⟨#[104, 116, 116, 112, 58, 47, 47, 119, 119, 119, 46, 119, 51, 46, 111, 114, 103, 47, 50, 48, 48, 49, 47, 88, 77, 76, 83, 99, 104, 101, 109, 97, 35, 115, 116, 114, 105, 110, 103]⟩, .string ⟨#[]⟩]] w fun e w' => e = .returned (.bool (litG s rs xString xStringL [] ⟨#[]⟩)) ∧ Below w.heap.size w w') := Lib.hid (fun w hm => litgood_any s xString ⟨#[]⟩ ls rs xStringL [] w hrd read_xS hs (by decide +kernel) (by decide +kernel) hm)
    have OF : Hid (∀ w, Calls Tryd.prog 24 #[.int .i64 n] w (fun e w' => ∃ r, e = .returned r ∧ BigV w' r n ∧ Below w.heap.size w w')) := Lib.hid (fun w => of_any n w hn.1 hn.2)
    have TX : Hid (∀ w u, BigV w u n → Calls Tryd.prog 23 #[u] w fun e w' => e = .returned (.string (intB n)) ∧ Below w.heap.size w w') := Lib.hid (fun w u hu => text_dig n u w (by have := hn.1; have := hn.2; have h := ten_mono (show 19 ≤ 60 by omega); rw [ten_19] at h; unfold szV; split <;> omega) hu)
    generalize litG s rs xString xStringL [] ⟨#[]⟩ = G at *
    clear hbig hs hrd hri hrb hn
    generalize intB n = IB at *
    cases y with
    | true =>
      rw [show boolB true = ⟨#[116, 114, 117, 101]⟩ from rfl] at BO ABB LGB
      go_enter Tryd.func5, Tryd.ntmps5
      go_wp2_with fail
      refine (AW.out _ (HEV.out _ (Below.refl _ _))).mono ?_
      rintro e w1 ⟨rfl, z1⟩
      go_wp2_with fail
      refine (IN.out _ (HTV.out _ z1)).mono ?_
      rintro e w2 ⟨rfl, hb2⟩
      have z2 := z1.trans (hb2.mono z1.size)
      clear hb2 z1
      go_wp2_with fail
      refine (BO.out _).mono ?_
      rintro e w3 ⟨rfl, hb3⟩
      have z3 := z2.trans (hb3.mono z2.size)
      clear hb3 z2
      go_wp2_with fail
      refine (PL.out _).mono ?_
      rintro e w4 ⟨rfl, hb4⟩
      have z4 := z3.trans (hb4.mono z3.size)
      clear hb4 z3
      go_wp2_with fail
      obtain ⟨w5, h5⟩ : ∃ w5, w5 = (((w4.alloc (.cells #[.string IB, .string ⟨#[104, 116, 116, 112, 58, 47, 47, 119, 119, 119, 46, 119, 51, 46, 111, 114, 103, 47, 50, 48, 48, 49, 47, 88, 77, 76, 83, 99, 104, 101, 109, 97, 35, 105, 110, 116, 101, 103, 101, 114]⟩, .string ⟨#[]⟩] 35)).alloc (.cells #[.string ⟨#[116, 114, 117, 101]⟩, .string ⟨#[104, 116, 116, 112, 58, 47, 47, 119, 119, 119, 46, 119, 51, 46, 111, 114, 103, 47, 50, 48, 48, 49, 47, 88, 77, 76, 83, 99, 104, 101, 109, 97, 35, 98, 111, 111, 108, 101, 97, 110]⟩, .string ⟨#[]⟩] 35)).alloc (.cells #[.string s, .string ⟨#[104, 116, 116, 112, 58, 47, 47, 119, 119, 119, 46, 119, 51, 46, 111, 114, 103, 47, 50, 48, 48, 49, 47, 88, 77, 76, 83, 99, 104, 101, 109, 97, 35, 115, 116, 114, 105, 110, 103]⟩, .string ⟨#[]⟩] 35)) := ⟨_, rfl⟩
      have HX : Hid (w5.cell? ⟨w4.heap.size, 0, none⟩ = some (.string IB) ∧ w5.cell? ⟨w4.heap.size, 1, none⟩ = some (.string ⟨#[104, 116, 116, 112, 58, 47, 47, 119, 119, 119, 46, 119, 51, 46, 111, 114, 103, 47, 50, 48, 48, 49, 47, 88, 77, 76, 83, 99, 104, 101, 109, 97, 35, 105, 110, 116, 101, 103, 101, 114]⟩) ∧ w5.cell? ⟨w4.heap.size, 2, none⟩ = some (.string ⟨#[]⟩) ∧ w5.cell? ⟨w4.heap.size + 1, 0, none⟩ = some (.string ⟨#[116, 114, 117, 101]⟩) ∧ w5.cell? ⟨w4.heap.size + 1, 1, none⟩ = some (.string ⟨#[104, 116, 116, 112, 58, 47, 47, 119, 119, 119, 46, 119, 51, 46, 111, 114, 103, 47, 50, 48, 48, 49, 47, 88, 77, 76, 83, 99, 104, 101, 109, 97, 35, 98, 111, 111, 108, 101, 97, 110]⟩) ∧ w5.cell? ⟨w4.heap.size + 1, 2, none⟩ = some (.string ⟨#[]⟩) ∧ w5.cell? ⟨w4.heap.size + 2, 0, none⟩ = some (.string s) ∧ w5.cell? ⟨w4.heap.size + 2, 1, none⟩ = some (.string ⟨#[104, 116, 116, 112, 58, 47, 47, 119, 119, 119, 46, 119, 51, 46, 111, 114, 103, 47, 50, 48, 48, 49, 47, 88, 77, 76, 83, 99, 104, 101, 109, 97, 35, 115, 116, 114, 105, 110, 103]⟩) ∧ w5.cell? ⟨w4.heap.size + 2, 2, none⟩ = some (.string ⟨#[]⟩) ∧ Below w.heap.size w w5) := Lib.hid (by
        rw [h5]
        exact ⟨by simp [go_sem], by simp [go_sem], by simp [go_sem], by simp [go_sem], by simp [go_sem], by simp [go_sem], by simp [go_sem], by simp [go_sem], by simp [go_sem], ((z4.alloc z4.size _).alloc (by simp; have := z4.size; omega) _).alloc (by simp; have := z4.size; omega) _⟩)
      rw [← h5]
      clear h5 z4
      generalize w4.heap.size = B0 at *
      refine (AIA.out _ (HEV.out _ HX.out.2.2.2.2.2.2.2.2.2)).mono ?_
      rintro e wn ⟨rfl, hbn⟩
      replace HX := Lib.hid (kept9 HX.out hbn)
      clear hbn
      obtain ⟨c0, c1, c2, c3, c4, c5, c6, c7, c8, cz⟩ := HX.out
      go_wp2_with fail
      refine (ABB.out _).mono ?_
      rintro e wn ⟨rfl, hbn⟩
      replace HX := Lib.hid (kept9 HX.out hbn)
      clear hbn cz c0 c1 c2 c3 c4 c5 c6 c7 c8
      obtain ⟨c0, c1, c2, c3, c4, c5, c6, c7, c8, cz⟩ := HX.out
      go_wp2_with fail
      refine (AIC.out _ (HEV.out _ cz)).mono ?_
      rintro e wn ⟨rfl, hbn⟩
      replace HX := Lib.hid (kept9 HX.out hbn)
      clear hbn cz c0 c1 c2 c3 c4 c5 c6 c7 c8
      obtain ⟨c0, c1, c2, c3, c4, c5, c6, c7, c8, cz⟩ := HX.out
      go_wp2_with fail
      refine (RGC.out _).mono ?_
      rintro e wn ⟨rfl, hbn⟩
      replace HX := Lib.hid (kept9 HX.out hbn)
      clear hbn cz c0 c1 c2 c3 c4 c5 c6 c7 c8
      obtain ⟨c0, c1, c2, c3, c4, c5, c6, c7, c8, cz⟩ := HX.out
      go_wp2_with fail
      refine wp_region_held_drew (S := fun w' => w'.cell? ⟨B0, 0, none⟩ = some (.string IB) ∧ w'.cell? ⟨B0, 1, none⟩ = some (.string ⟨#[104, 116, 116, 112, 58, 47, 47, 119, 119, 119, 46, 119, 51, 46, 111, 114, 103, 47, 50, 48, 48, 49, 47, 88, 77, 76, 83, 99, 104, 101, 109, 97, 35, 105, 110, 116, 101, 103, 101, 114]⟩) ∧ w'.cell? ⟨B0, 2, none⟩ = some (.string ⟨#[]⟩) ∧ w'.cell? ⟨B0 + 1, 0, none⟩ = some (.string ⟨#[116, 114, 117, 101]⟩) ∧ w'.cell? ⟨B0 + 1, 1, none⟩ = some (.string ⟨#[104, 116, 116, 112, 58, 47, 47, 119, 119, 119, 46, 119, 51, 46, 111, 114, 103, 47, 50, 48, 48, 49, 47, 88, 77, 76, 83, 99, 104, 101, 109, 97, 35, 98, 111, 111, 108, 101, 97, 110]⟩) ∧ w'.cell? ⟨B0 + 1, 2, none⟩ = some (.string ⟨#[]⟩) ∧ w'.cell? ⟨B0 + 2, 0, none⟩ = some (.string s) ∧ w'.cell? ⟨B0 + 2, 1, none⟩ = some (.string ⟨#[104, 116, 116, 112, 58, 47, 47, 119, 119, 119, 46, 119, 51, 46, 111, 114, 103, 47, 50, 48, 48, 49, 47, 88, 77, 76, 83, 99, 104, 101, 109, 97, 35, 115, 116, 114, 105, 110, 103]⟩) ∧ w'.cell? ⟨B0 + 2, 2, none⟩ = some (.string ⟨#[]⟩) ∧ Below w.heap.size w w') (by kernel_rfl) ?hSmk10 (fun hHeld => ?_)
      case hSmk10 => exact ⟨c0, c1, c2, c3, c4, c5, c6, c7, c8, cz.drew⟩
      refine wpAnyH_take (i := 0) (oi := ⟨some 54, _, _, _, _, _⟩) (v := ?vmk10) rfl (by kernel_rfl) (by kernel_rfl) (by kernel_rfl) (fun _ _ _ h => h) (Or.inl ⟨by kernel_rfl, ?ymk10⟩) (by assumption) ?rmk10
      case ymk10 =>
        intro w hSw
        try dsimp only at hSw
        first | (go_simp; done) | (go_simp; with_reducible rfl)
      try simp only [Act.put, List.setIfInBounds_toArray, List.set_cons_zero, List.set_cons_succ]
      refine wpAnyH_ready (rs := [1]) (by kernel_rfl) (by simp) ?_
      refine AllReadyH.cons (i := 1) (o := ⟨some 55, _, _, _, _, _⟩) rfl (fun K hK => ?_) AllReadyH.nil
      go_simp
      go_at_call 22
      refine (LGA.out _ (HMV.out _ hHeld.2.2.2.2.2.2.2.2.2)).mono ?_
      rintro e wp ⟨rfl, hb⟩
      go_wp2_with fail
      refine hK.out _ _ ?_ (fun hHeld => ?_)
      · exact kept9 (by assumption) hb
      clear hK K
      try simp only [Act.put, List.setIfInBounds_toArray, List.set_cons_zero, List.set_cons_succ]
      refine wpAnyH_take (i := 2) (oi := ⟨some 56, _, _, _, _, _⟩) (v := ?vmk12) rfl (by kernel_rfl) (by kernel_rfl) (by kernel_rfl) (fun _ _ _ h => h) (Or.inl ⟨by kernel_rfl, ?ymk12⟩) (by assumption) ?rmk12
      case ymk12 =>
        intro w hSw
        try dsimp only at hSw
        first | (go_simp; done) | (go_simp; with_reducible rfl)
      try simp only [Act.put, List.setIfInBounds_toArray, List.set_cons_zero, List.set_cons_succ]
      refine wpAnyH_take (i := 3) (oi := ⟨some 57, _, _, _, _, _⟩) (v := ?vmk13) rfl (by kernel_rfl) (by kernel_rfl) (by kernel_rfl) (fun _ _ _ h => h) (Or.inl ⟨by kernel_rfl, ?ymk13⟩) (by assumption) ?rmk13
      case ymk13 =>
        intro w hSw
        try dsimp only at hSw
        first | (go_simp; done) | (go_simp; with_reducible rfl)
      try simp only [Act.put, List.setIfInBounds_toArray, List.set_cons_zero, List.set_cons_succ]
      refine wpAnyH_ready (rs := [4]) (by kernel_rfl) (by simp) ?_
      refine AllReadyH.cons (i := 4) (o := ⟨some 58, _, _, _, _, _⟩) rfl (fun K hK => ?_) AllReadyH.nil
      go_simp
      go_at_call 22
      refine (LGB.out _ (HMV.out _ hHeld.2.2.2.2.2.2.2.2.2)).mono ?_
      rintro e wp ⟨rfl, hb⟩
      go_wp2_with fail
      refine hK.out _ _ ?_ (fun hHeld => ?_)
      · exact kept9 (by assumption) hb
      clear hK K
      try simp only [Act.put, List.setIfInBounds_toArray, List.set_cons_zero, List.set_cons_succ]
      refine wpAnyH_take (i := 5) (oi := ⟨some 59, _, _, _, _, _⟩) (v := ?vmk15) rfl (by kernel_rfl) (by kernel_rfl) (by kernel_rfl) (fun _ _ _ h => h) (Or.inl ⟨by kernel_rfl, ?ymk15⟩) (by assumption) ?rmk15
      case ymk15 =>
        intro w hSw
        try dsimp only at hSw
        first | (go_simp; done) | (go_simp; with_reducible rfl)
      try simp only [Act.put, List.setIfInBounds_toArray, List.set_cons_zero, List.set_cons_succ]
      refine wpAnyH_take (i := 6) (oi := ⟨some 60, _, _, _, _, _⟩) (v := ?vmk16) rfl (by kernel_rfl) (by kernel_rfl) (by kernel_rfl) (fun _ _ _ h => h) (Or.inl ⟨by kernel_rfl, ?ymk16⟩) (by assumption) ?rmk16
      case ymk16 =>
        intro w hSw
        try dsimp only at hSw
        first | (go_simp; done) | (go_simp; with_reducible rfl)
      try simp only [Act.put, List.setIfInBounds_toArray, List.set_cons_zero, List.set_cons_succ]
      refine wpAnyH_take (i := 7) (oi := ⟨some 61, _, _, _, _, _⟩) (v := ?vmk17) rfl (by kernel_rfl) (by kernel_rfl) (by kernel_rfl) (fun _ _ _ h => h) (Or.inl ⟨by kernel_rfl, ?ymk17⟩) (by assumption) ?rmk17
      case ymk17 =>
        intro w hSw
        try dsimp only at hSw
        first | (go_simp; done) | (go_simp; with_reducible rfl)
      try simp only [Act.put, List.setIfInBounds_toArray, List.set_cons_zero, List.set_cons_succ]
      refine wpAnyH_take (i := 9) (oi := ⟨some 63, _, _, _, _, _⟩) (v := ?vmk19) rfl (by kernel_rfl) (by kernel_rfl) (by kernel_rfl) (fun _ _ _ h => h) (Or.inl ⟨by kernel_rfl, ?ymk19⟩) (by assumption) ?rmk19
      case ymk19 =>
        intro w hSw
        try dsimp only at hSw
        first | (go_simp; done) | (go_simp; with_reducible rfl)
      try simp only [Act.put, List.setIfInBounds_toArray, List.set_cons_zero, List.set_cons_succ]
      refine wpAnyH_ready (rs := [8]) (by kernel_rfl) (by simp) ?_
      refine AllReadyH.cons (i := 8) (o := ⟨some 62, _, _, _, _, _⟩) rfl (fun K hK => ?_) AllReadyH.nil
      go_simp
      go_at_call 22
      refine (LGC.out _ (HMV.out _ hHeld.2.2.2.2.2.2.2.2.2)).mono ?_
      rintro e wp ⟨rfl, hb⟩
      go_wp2_with fail
      refine hK.out _ _ ?_ (fun hHeld => ?_)
      · exact kept9 (by assumption) hb
      clear hK K
      try simp only [Act.put, List.setIfInBounds_toArray, List.set_cons_zero, List.set_cons_succ]
      refine wpAnyH_take (i := 10) (oi := ⟨some 64, _, _, _, _, _⟩) (v := ?vmk110) rfl (by kernel_rfl) (by kernel_rfl) (by kernel_rfl) (fun _ _ _ h => h) (Or.inl ⟨by kernel_rfl, ?ymk110⟩) (by assumption) ?rmk110
      case ymk110 =>
        intro w hSw
        try dsimp only at hSw
        first | (go_simp; done) | (go_simp; with_reducible rfl)
      try simp only [Act.put, List.setIfInBounds_toArray, List.set_cons_zero, List.set_cons_succ]
      refine wpAnyH_take (i := 11) (oi := ⟨some 65, _, _, _, _, _⟩) (v := ?vmk111) rfl (by kernel_rfl) (by kernel_rfl) (by kernel_rfl) (fun _ _ _ h => h) (Or.inl ⟨by kernel_rfl, ?ymk111⟩) (by assumption) ?rmk111
      case ymk111 =>
        intro w hSw
        try dsimp only at hSw
        first | (go_simp; done) | (go_simp; with_reducible rfl)
      try simp only [Act.put, List.setIfInBounds_toArray, List.set_cons_zero, List.set_cons_succ]
      refine wpAnyH_take (i := 12) (oi := ⟨some 66, _, _, _, _, _⟩) (v := ?vmk112) rfl (by kernel_rfl) (by kernel_rfl) (by kernel_rfl) (fun _ _ _ h => h) (Or.inl ⟨by kernel_rfl, ?ymk112⟩) (by assumption) ?rmk112
      case ymk112 =>
        intro w hSw
        try dsimp only at hSw
        first | (go_simp; done) | (go_simp; with_reducible rfl)
      try simp only [Act.put, List.setIfInBounds_toArray, List.set_cons_zero, List.set_cons_succ]
      refine wpAnyH_take (i := 13) (oi := ⟨some 67, _, _, _, _, _⟩) (v := ?vmk113) rfl (by kernel_rfl) (by kernel_rfl) (by kernel_rfl) (fun _ _ _ h => h) (Or.inl ⟨by kernel_rfl, ?ymk113⟩) (by assumption) ?rmk113
      case ymk113 =>
        intro w hSw
        try dsimp only at hSw
        first | (go_simp; done) | (go_simp; with_reducible rfl)
      try simp only [Act.put, List.setIfInBounds_toArray, List.set_cons_zero, List.set_cons_succ]
      refine wpAnyH_take (i := 14) (oi := ⟨some 68, _, _, _, _, _⟩) (v := ?vmk114) rfl (by kernel_rfl) (by kernel_rfl) (by kernel_rfl) (fun _ _ _ h => h) (Or.inl ⟨by kernel_rfl, ?ymk114⟩) (by assumption) ?rmk114
      case ymk114 =>
        intro w hSw
        try dsimp only at hSw
        first | (go_simp; done) | (go_simp; with_reducible rfl)
      try simp only [Act.put, List.setIfInBounds_toArray, List.set_cons_zero, List.set_cons_succ]
      refine wpAnyH_take (i := 15) (oi := ⟨some 69, _, _, _, _, _⟩) (v := ?vmk115) rfl (by kernel_rfl) (by kernel_rfl) (by kernel_rfl) (fun _ _ _ h => h) (Or.inl ⟨by kernel_rfl, ?ymk115⟩) (by assumption) ?rmk115
      case ymk115 =>
        intro w hSw
        try dsimp only at hSw
        first | (go_simp; done) | (go_simp; with_reducible rfl)
      try simp only [Act.put, List.setIfInBounds_toArray, List.set_cons_zero, List.set_cons_succ]
      refine wpAnyH_take (i := 16) (oi := ⟨some 70, _, _, _, _, _⟩) (v := ?vmk116) rfl (by kernel_rfl) (by kernel_rfl) (by kernel_rfl) (fun _ _ _ h => h) (Or.inl ⟨by kernel_rfl, ?ymk116⟩) (by assumption) ?rmk116
      case ymk116 =>
        intro w hSw
        try dsimp only at hSw
        first | (go_simp; done) | (go_simp; with_reducible rfl)
      try simp only [Act.put, List.setIfInBounds_toArray, List.set_cons_zero, List.set_cons_succ]
      refine wpAnyH_take (i := 17) (oi := ⟨some 71, _, _, _, _, _⟩) (v := ?vmk117) rfl (by kernel_rfl) (by kernel_rfl) (by kernel_rfl) (fun _ _ _ h => h) (Or.inl ⟨by kernel_rfl, ?ymk117⟩) (by assumption) ?rmk117
      case ymk117 =>
        intro w hSw
        try dsimp only at hSw
        first | (go_simp; done) | (go_simp; with_reducible rfl)
      try simp only [Act.put, List.setIfInBounds_toArray, List.set_cons_zero, List.set_cons_succ]
      refine wpAnyH_take (i := 18) (oi := ⟨some 72, _, _, _, _, _⟩) (v := ?vmk118) rfl (by kernel_rfl) (by kernel_rfl) (by kernel_rfl) (fun _ _ _ h => h) (Or.inl ⟨by kernel_rfl, ?ymk118⟩) (by assumption) ?rmk118
      case ymk118 =>
        intro w hSw
        try dsimp only at hSw
        first | (go_simp; done) | (go_simp; with_reducible rfl)
      try simp only [Act.put, List.setIfInBounds_toArray, List.set_cons_zero, List.set_cons_succ]
      refine wpAnyH_take (i := 19) (oi := ⟨some 73, _, _, _, _, _⟩) (v := ?vmk119) rfl (by kernel_rfl) (by kernel_rfl) (by kernel_rfl) (fun _ _ _ h => h) (Or.inl ⟨by kernel_rfl, ?ymk119⟩) (by assumption) ?rmk119
      case ymk119 =>
        intro w hSw
        try dsimp only at hSw
        first | (go_simp; done) | (go_simp; with_reducible rfl)
      try simp only [Act.put, List.setIfInBounds_toArray, List.set_cons_zero, List.set_cons_succ]
      refine wpAnyH_take (i := 20) (oi := ⟨some 74, _, _, _, _, _⟩) (v := ?vmk120) rfl (by kernel_rfl) (by kernel_rfl) (by kernel_rfl) (fun _ _ _ h => h) (Or.inl ⟨by kernel_rfl, ?ymk120⟩) (by assumption) ?rmk120
      case ymk120 =>
        intro w hSw
        try dsimp only at hSw
        first | (go_simp; done) | (go_simp; with_reducible rfl)
      try simp only [Act.put, List.setIfInBounds_toArray, List.set_cons_zero, List.set_cons_succ]
      refine wpAnyH_take (i := 21) (oi := ⟨some 75, _, _, _, _, _⟩) (v := ?vmk121) rfl (by kernel_rfl) (by kernel_rfl) (by kernel_rfl) (fun _ _ _ h => h) (Or.inl ⟨by kernel_rfl, ?ymk121⟩) (by assumption) ?rmk121
      case ymk121 =>
        intro w hSw
        try dsimp only at hSw
        first | (go_simp; done) | (go_simp; with_reducible rfl)
      try simp only [Act.put, List.setIfInBounds_toArray, List.set_cons_zero, List.set_cons_succ]
      refine wpAnyH_take (i := 22) (oi := ⟨some 76, _, _, _, _, _⟩) (v := ?vmk122) rfl (by kernel_rfl) (by kernel_rfl) (by kernel_rfl) (fun _ _ _ h => h) (Or.inl ⟨by kernel_rfl, ?ymk122⟩) (by assumption) ?rmk122
      case ymk122 =>
        intro w hSw
        try dsimp only at hSw
        first | (go_simp; done) | (go_simp; with_reducible rfl)
      try simp only [Act.put, List.setIfInBounds_toArray, List.set_cons_zero, List.set_cons_succ]
      refine wpAnyH_take (i := 23) (oi := ⟨some 77, _, _, _, _, _⟩) (v := ?vmk123) rfl (by kernel_rfl) (by kernel_rfl) (by kernel_rfl) (fun _ _ _ h => h) (Or.inl ⟨by kernel_rfl, ?ymk123⟩) (by assumption) ?rmk123
      case ymk123 =>
        intro w hSw
        try dsimp only at hSw
        first | (go_simp; done) | (go_simp; with_reducible rfl)
      try simp only [Act.put, List.setIfInBounds_toArray, List.set_cons_zero, List.set_cons_succ]
      refine wpAnyH_take (i := 24) (oi := ⟨some 78, _, _, _, _, _⟩) (v := ?vmk124) rfl (by kernel_rfl) (by kernel_rfl) (by kernel_rfl) (fun _ _ _ h => h) (Or.inl ⟨by kernel_rfl, ?ymk124⟩) (by assumption) ?rmk124
      case ymk124 =>
        intro w hSw
        try dsimp only at hSw
        first | (go_simp; done) | (go_simp; with_reducible rfl)
      try simp only [Act.put, List.setIfInBounds_toArray, List.set_cons_zero, List.set_cons_succ]
      refine wpAnyH_take (i := 25) (oi := ⟨some 79, _, _, _, _, _⟩) (v := ?vmk125) rfl (by kernel_rfl) (by kernel_rfl) (by kernel_rfl) (fun _ _ _ h => h) (Or.inl ⟨by kernel_rfl, ?ymk125⟩) (by assumption) ?rmk125
      case ymk125 =>
        intro w hSw
        try dsimp only at hSw
        first | (go_simp; done) | (go_simp; with_reducible rfl)
      try simp only [Act.put, List.setIfInBounds_toArray, List.set_cons_zero, List.set_cons_succ]
      refine wpAnyH_take (i := 26) (oi := ⟨some 80, _, _, _, _, _⟩) (v := ?vmk126) rfl (by kernel_rfl) (by kernel_rfl) (by kernel_rfl) (fun _ _ _ h => h) (Or.inl ⟨by kernel_rfl, ?ymk126⟩) (by assumption) ?rmk126
      case ymk126 =>
        intro w hSw
        try dsimp only at hSw
        first | (go_simp; done) | (go_simp; with_reducible rfl)
      try simp only [Act.put, List.setIfInBounds_toArray, List.set_cons_zero, List.set_cons_succ]
      refine wpAnyH_take (i := 27) (oi := ⟨some 81, _, _, _, _, _⟩) (v := ?vmk127) rfl (by kernel_rfl) (by kernel_rfl) (by kernel_rfl) (fun _ _ _ h => h) (Or.inl ⟨by kernel_rfl, ?ymk127⟩) (by assumption) ?rmk127
      case ymk127 =>
        intro w hSw
        try dsimp only at hSw
        first | (go_simp; done) | (go_simp; with_reducible rfl)
      try simp only [Act.put, List.setIfInBounds_toArray, List.set_cons_zero, List.set_cons_succ]
      refine wpAnyH_take (i := 28) (oi := ⟨some 82, _, _, _, _, _⟩) (v := ?vmk128) rfl (by kernel_rfl) (by kernel_rfl) (by kernel_rfl) (fun _ _ _ h => h) (Or.inl ⟨by kernel_rfl, ?ymk128⟩) (by assumption) ?rmk128
      case ymk128 =>
        intro w hSw
        try dsimp only at hSw
        first | (go_simp; done) | (go_simp; with_reducible rfl)
      try simp only [Act.put, List.setIfInBounds_toArray, List.set_cons_zero, List.set_cons_succ]
      refine wpAnyH_take (i := 29) (oi := ⟨some 83, _, _, _, _, _⟩) (v := ?vmk129) rfl (by kernel_rfl) (by kernel_rfl) (by kernel_rfl) (fun _ _ _ h => h) (Or.inl ⟨by kernel_rfl, ?ymk129⟩) (by assumption) ?rmk129
      case ymk129 =>
        intro w hSw
        try dsimp only at hSw
        first | (go_simp; done) | (go_simp; with_reducible rfl)
      try simp only [Act.put, List.setIfInBounds_toArray, List.set_cons_zero, List.set_cons_succ]
      refine wpAnyH_take (i := 30) (oi := ⟨some 84, _, _, _, _, _⟩) (v := ?vmk130) rfl (by kernel_rfl) (by kernel_rfl) (by kernel_rfl) (fun _ _ _ h => h) (Or.inl ⟨by kernel_rfl, ?ymk130⟩) (by assumption) ?rmk130
      case ymk130 =>
        intro w hSw
        try dsimp only at hSw
        first | (go_simp; done) | (go_simp; with_reducible rfl)
      try simp only [Act.put, List.setIfInBounds_toArray, List.set_cons_zero, List.set_cons_succ]
      refine wpAnyH_take (i := 31) (oi := ⟨some 85, _, _, _, _, _⟩) (v := ?vmk131) rfl (by kernel_rfl) (by kernel_rfl) (by kernel_rfl) (fun _ _ _ h => h) (Or.inl ⟨by kernel_rfl, ?ymk131⟩) (by assumption) ?rmk131
      case ymk131 =>
        intro w hSw
        try dsimp only at hSw
        first | (go_simp; done) | (go_simp; with_reducible rfl)
      try simp only [Act.put, List.setIfInBounds_toArray, List.set_cons_zero, List.set_cons_succ]
      refine wpAnyH_take (i := 32) (oi := ⟨some 86, _, _, _, _, _⟩) (v := ?vmk132) rfl (by kernel_rfl) (by kernel_rfl) (by kernel_rfl) (fun _ _ _ h => h) (Or.inl ⟨by kernel_rfl, ?ymk132⟩) (by assumption) ?rmk132
      case ymk132 =>
        intro w hSw
        try dsimp only at hSw
        first | (go_simp; done) | (go_simp; with_reducible rfl)
      try simp only [Act.put, List.setIfInBounds_toArray, List.set_cons_zero, List.set_cons_succ]
      refine wpAnyH_take (i := 33) (oi := ⟨some 87, _, _, _, _, _⟩) (v := ?vmk133) rfl (by kernel_rfl) (by kernel_rfl) (by kernel_rfl) (fun _ _ _ h => h) (Or.inl ⟨by kernel_rfl, ?ymk133⟩) (by assumption) ?rmk133
      case ymk133 =>
        intro w hSw
        try dsimp only at hSw
        first | (go_simp; done) | (go_simp; with_reducible rfl)
      try simp only [Act.put, List.setIfInBounds_toArray, List.set_cons_zero, List.set_cons_succ]
      refine wpAnyH_take (i := 34) (oi := ⟨some 88, _, _, _, _, _⟩) (v := ?vmk134) rfl (by kernel_rfl) (by kernel_rfl) (by kernel_rfl) (fun _ _ _ h => h) (Or.inl ⟨by kernel_rfl, ?ymk134⟩) (by assumption) ?rmk134
      case ymk134 =>
        intro w hSw
        try dsimp only at hSw
        first | (go_simp; done) | (go_simp; with_reducible rfl)
      try simp only [Act.put, List.setIfInBounds_toArray, List.set_cons_zero, List.set_cons_succ]
      refine wpAnyH_take (i := 35) (oi := ⟨some 89, _, _, _, _, _⟩) (v := ?vmk135) rfl (by kernel_rfl) (by kernel_rfl) (by kernel_rfl) (fun _ _ _ h => h) (Or.inl ⟨by kernel_rfl, ?ymk135⟩) (by assumption) ?rmk135
      case ymk135 =>
        intro w hSw
        try dsimp only at hSw
        first | (go_simp; done) | (go_simp; with_reducible rfl)
      try simp only [Act.put, List.setIfInBounds_toArray, List.set_cons_zero, List.set_cons_succ]
      refine wpAnyH_take (i := 36) (oi := ⟨some 90, _, _, _, _, _⟩) (v := ?vmk136) rfl (by kernel_rfl) (by kernel_rfl) (by kernel_rfl) (fun _ _ _ h => h) (Or.inl ⟨by kernel_rfl, ?ymk136⟩) (by assumption) ?rmk136
      case ymk136 =>
        intro w hSw
        try dsimp only at hSw
        first | (go_simp; done) | (go_simp; with_reducible rfl)
      try simp only [Act.put, List.setIfInBounds_toArray, List.set_cons_zero, List.set_cons_succ]
      refine wpAnyH_take (i := 37) (oi := ⟨some 91, _, _, _, _, _⟩) (v := ?vmk137) rfl (by kernel_rfl) (by kernel_rfl) (by kernel_rfl) (fun _ _ _ h => h) (Or.inl ⟨by kernel_rfl, ?ymk137⟩) (by assumption) ?rmk137
      case ymk137 =>
        intro w hSw
        try dsimp only at hSw
        first | (go_simp; done) | (go_simp; with_reducible rfl)
      try simp only [Act.put, List.setIfInBounds_toArray, List.set_cons_zero, List.set_cons_succ]
      refine wpAnyH_take (i := 38) (oi := ⟨some 92, _, _, _, _, _⟩) (v := ?vmk138) rfl (by kernel_rfl) (by kernel_rfl) (by kernel_rfl) (fun _ _ _ h => h) (Or.inl ⟨by kernel_rfl, ?ymk138⟩) (by assumption) ?rmk138
      case ymk138 =>
        intro w hSw
        try dsimp only at hSw
        first | (go_simp; done) | (go_simp; with_reducible rfl)
      try simp only [Act.put, List.setIfInBounds_toArray, List.set_cons_zero, List.set_cons_succ]
      refine wpAnyH_take (i := 39) (oi := ⟨some 93, _, _, _, _, _⟩) (v := ?vmk139) rfl (by kernel_rfl) (by kernel_rfl) (by kernel_rfl) (fun _ _ _ h => h) (Or.inl ⟨by kernel_rfl, ?ymk139⟩) (by assumption) ?rmk139
      case ymk139 =>
        intro w hSw
        try dsimp only at hSw
        first | (go_simp; done) | (go_simp; with_reducible rfl)
      try simp only [Act.put, List.setIfInBounds_toArray, List.set_cons_zero, List.set_cons_succ]
      refine wpAnyH_take (i := 40) (oi := ⟨some 94, _, _, _, _, _⟩) (v := ?vmk140) rfl (by kernel_rfl) (by kernel_rfl) (by kernel_rfl) (fun _ _ _ h => h) (Or.inl ⟨by kernel_rfl, ?ymk140⟩) (by assumption) ?rmk140
      case ymk140 =>
        intro w hSw
        try dsimp only at hSw
        first | (go_simp; done) | (go_simp; with_reducible rfl)
      try simp only [Act.put, List.setIfInBounds_toArray, List.set_cons_zero, List.set_cons_succ]
      refine wpAnyH_take (i := 41) (oi := ⟨some 95, _, _, _, _, _⟩) (v := ?vmk141) rfl (by kernel_rfl) (by kernel_rfl) (by kernel_rfl) (fun _ _ _ h => h) (Or.inl ⟨by kernel_rfl, ?ymk141⟩) (by assumption) ?rmk141
      case ymk141 =>
        intro w hSw
        try dsimp only at hSw
        first | (go_simp; done) | (go_simp; with_reducible rfl)
      try simp only [Act.put, List.setIfInBounds_toArray, List.set_cons_zero, List.set_cons_succ]
      refine wpAnyH_take (i := 42) (oi := ⟨some 96, _, _, _, _, _⟩) (v := ?vmk142) rfl (by kernel_rfl) (by kernel_rfl) (by kernel_rfl) (fun _ _ _ h => h) (Or.inl ⟨by kernel_rfl, ?ymk142⟩) (by assumption) ?rmk142
      case ymk142 =>
        intro w hSw
        try dsimp only at hSw
        first | (go_simp; done) | (go_simp; with_reducible rfl)
      try simp only [Act.put, List.setIfInBounds_toArray, List.set_cons_zero, List.set_cons_succ]
      refine wpAnyH_take (i := 43) (oi := ⟨some 97, _, _, _, _, _⟩) (v := ?vmk143) rfl (by kernel_rfl) (by kernel_rfl) (by kernel_rfl) (fun _ _ _ h => h) (Or.inl ⟨by kernel_rfl, ?ymk143⟩) (by assumption) ?rmk143
      case ymk143 =>
        intro w hSw
        try dsimp only at hSw
        first | (go_simp; done) | (go_simp; with_reducible rfl)
      try simp only [Act.put, List.setIfInBounds_toArray, List.set_cons_zero, List.set_cons_succ]
      refine wpAnyH_ready (rs := [44]) (by kernel_rfl) (by simp) ?_
      refine AllReadyH.cons (i := 44) (o := ⟨some 98, _, _, _, _, _⟩) rfl (fun K hK => ?_) AllReadyH.nil
      go_simp
      go_at_call 24
      refine (OF.out _).mono ?_
      rintro e wp ⟨r, rfl, hr, hb⟩
      have HRV := Lib.hid hr
      clear hr
      go_wp2_with fail
      refine hK.out _ _ ?_ (fun hHeld => ?_)
      · exact kept9 (by assumption) hb
      clear hK K
      try simp only [Act.put, List.setIfInBounds_toArray, List.set_cons_zero, List.set_cons_succ]
      refine wpAnyH_ready (rs := [45]) (by kernel_rfl) (by simp) ?_
      refine AllReadyH.cons (i := 45) (o := ⟨some 99, _, _, _, _, _⟩) rfl (fun K hK => ?_) AllReadyH.nil
      go_simp
      go_at_call 23
      refine (TX.out _ _ HRV.out).mono ?_
      rintro e wp ⟨rfl, hb⟩
      go_wp2_with fail
      refine hK.out _ _ ?_ (fun hHeld => ?_)
      · exact kept9 (by assumption) hb
      clear hK K
      try simp only [Act.put, List.setIfInBounds_toArray, List.set_cons_zero, List.set_cons_succ]
      refine wpAnyH_take (i := 46) (oi := ⟨some 100, _, _, _, _, _⟩) (v := ?vmk146) rfl (by kernel_rfl) (by kernel_rfl) (by kernel_rfl) (fun _ _ _ h => h) (Or.inl ⟨by kernel_rfl, ?ymk146⟩) (by assumption) ?rmk146
      case ymk146 =>
        intro w hSw
        try dsimp only at hSw
        first | (go_simp; done) | (go_simp; with_reducible rfl)
      try simp only [Act.put, List.setIfInBounds_toArray, List.set_cons_zero, List.set_cons_succ]
      refine wpAnyH_take (i := 47) (oi := ⟨some 101, _, _, _, _, _⟩) (v := ?vmk147) rfl (by kernel_rfl) (by kernel_rfl) (by kernel_rfl) (fun _ _ _ h => h) (Or.inl ⟨by kernel_rfl, ?ymk147⟩) (by assumption) ?rmk147
      case ymk147 =>
        intro w hSw
        try dsimp only at hSw
        first | (go_simp; done) | (go_simp; with_reducible rfl)
      try simp only [Act.put, List.setIfInBounds_toArray, List.set_cons_zero, List.set_cons_succ]
      refine wpAnyH_take (i := 48) (oi := ⟨some 102, _, _, _, _, _⟩) (v := ?vmk148) rfl (by kernel_rfl) (by kernel_rfl) (by kernel_rfl) (fun _ _ _ h => h) (Or.inl ⟨by kernel_rfl, ?ymk148⟩) (by assumption) ?rmk148
      case ymk148 =>
        intro w hSw
        try dsimp only at hSw
        first | (go_simp; done) | (go_simp; with_reducible rfl)
      try simp only [Act.put, List.setIfInBounds_toArray, List.set_cons_zero, List.set_cons_succ]
      refine wpAnyH_take (i := 49) (oi := ⟨some 103, _, _, _, _, _⟩) (v := ?vmk149) rfl (by kernel_rfl) (by kernel_rfl) (by kernel_rfl) (fun _ _ _ h => h) (Or.inl ⟨by kernel_rfl, ?ymk149⟩) (by assumption) ?rmk149
      case ymk149 =>
        intro w hSw
        try dsimp only at hSw
        first | (go_simp; done) | (go_simp; with_reducible rfl)
      try simp only [Act.put, List.setIfInBounds_toArray, List.set_cons_zero, List.set_cons_succ]
      refine wpAnyH_take (i := 50) (oi := ⟨some 104, _, _, _, _, _⟩) (v := ?vmk150) rfl (by kernel_rfl) (by kernel_rfl) (by kernel_rfl) (fun _ _ _ h => h) (Or.inl ⟨by kernel_rfl, ?ymk150⟩) (by assumption) ?rmk150
      case ymk150 =>
        intro w hSw
        try dsimp only at hSw
        first | (go_simp; done) | (go_simp; with_reducible rfl)
      try simp only [Act.put, List.setIfInBounds_toArray, List.set_cons_zero, List.set_cons_succ]
      refine wpAnyH_take (i := 51) (oi := ⟨some 105, _, _, _, _, _⟩) (v := ?vmk151) rfl (by kernel_rfl) (by kernel_rfl) (by kernel_rfl) (fun _ _ _ h => h) (Or.inl ⟨by kernel_rfl, ?ymk151⟩) (by assumption) ?rmk151
      case ymk151 =>
        intro w hSw
        try dsimp only at hSw
        first | (go_simp; done) | (go_simp; with_reducible rfl)
      try simp only [Act.put, List.setIfInBounds_toArray, List.set_cons_zero, List.set_cons_succ]
      refine wpAnyH_take (i := 52) (oi := ⟨some 106, _, _, _, _, _⟩) (v := ?vmk152) rfl (by kernel_rfl) (by kernel_rfl) (by kernel_rfl) (fun _ _ _ h => h) (Or.inl ⟨by kernel_rfl, ?ymk152⟩) (by assumption) ?rmk152
      case ymk152 =>
        intro w hSw
        try dsimp only at hSw
        first | (go_simp; done) | (go_simp; with_reducible rfl)
      try simp only [Act.put, List.setIfInBounds_toArray, List.set_cons_zero, List.set_cons_succ]
      refine wpAnyH_take (i := 53) (oi := ⟨some 107, _, _, _, _, _⟩) (v := ?vmk153) rfl (by kernel_rfl) (by kernel_rfl) (by kernel_rfl) (fun _ _ _ h => h) (Or.inl ⟨by kernel_rfl, ?ymk153⟩) (by assumption) ?rmk153
      case ymk153 =>
        intro w hSw
        try dsimp only at hSw
        first | (go_simp; done) | (go_simp; with_reducible rfl)
      try simp only [Act.put, List.setIfInBounds_toArray, List.set_cons_zero, List.set_cons_succ]
      refine wpAnyH_take (i := 54) (oi := ⟨some 108, _, _, _, _, _⟩) (v := ?vmk154) rfl (by kernel_rfl) (by kernel_rfl) (by kernel_rfl) (fun _ _ _ h => h) (Or.inl ⟨by kernel_rfl, ?ymk154⟩) (by assumption) ?rmk154
      case ymk154 =>
        intro w hSw
        try dsimp only at hSw
        first | (go_simp; done) | (go_simp; with_reducible rfl)
      try simp only [Act.put, List.setIfInBounds_toArray, List.set_cons_zero, List.set_cons_succ]
      refine wpAnyH_take (i := 55) (oi := ⟨some 109, _, _, _, _, _⟩) (v := ?vmk155) rfl (by kernel_rfl) (by kernel_rfl) (by kernel_rfl) (fun _ _ _ h => h) (Or.inl ⟨by kernel_rfl, ?ymk155⟩) (by assumption) ?rmk155
      case ymk155 =>
        intro w hSw
        try dsimp only at hSw
        first | (go_simp; done) | (go_simp; with_reducible rfl)
      try simp only [Act.put, List.setIfInBounds_toArray, List.set_cons_zero, List.set_cons_succ]
      refine wpAnyH_take (i := 56) (oi := ⟨some 110, _, _, _, _, _⟩) (v := ?vmk156) rfl (by kernel_rfl) (by kernel_rfl) (by kernel_rfl) (fun _ _ _ h => h) (Or.inl ⟨by kernel_rfl, ?ymk156⟩) (by assumption) ?rmk156
      case ymk156 =>
        intro w hSw
        try dsimp only at hSw
        first | (go_simp; done) | (go_simp; with_reducible rfl)
      try simp only [Act.put, List.setIfInBounds_toArray, List.set_cons_zero, List.set_cons_succ]
      refine wpAnyH_take (i := 57) (oi := ⟨some 111, _, _, _, _, _⟩) (v := ?vmk157) rfl (by kernel_rfl) (by kernel_rfl) (by kernel_rfl) (fun _ _ _ h => h) (Or.inl ⟨by kernel_rfl, ?ymk157⟩) (by assumption) ?rmk157
      case ymk157 =>
        intro w hSw
        try dsimp only at hSw
        first | (go_simp; done) | (go_simp; with_reducible rfl)
      try simp only [Act.put, List.setIfInBounds_toArray, List.set_cons_zero, List.set_cons_succ]
      refine wpAnyH_take (i := 58) (oi := ⟨some 112, _, _, _, _, _⟩) (v := ?vmk158) rfl (by kernel_rfl) (by kernel_rfl) (by kernel_rfl) (fun _ _ _ h => h) (Or.inl ⟨by kernel_rfl, ?ymk158⟩) (by assumption) ?rmk158
      case ymk158 =>
        intro w hSw
        try dsimp only at hSw
        first | (go_simp; done) | (go_simp; with_reducible rfl)
      try simp only [Act.put, List.setIfInBounds_toArray, List.set_cons_zero, List.set_cons_succ]
      refine wpAnyH_take (i := 59) (oi := ⟨some 113, _, _, _, _, _⟩) (v := ?vmk159) rfl (by kernel_rfl) (by kernel_rfl) (by kernel_rfl) (fun _ _ _ h => h) (Or.inl ⟨by kernel_rfl, ?ymk159⟩) (by assumption) ?rmk159
      case ymk159 =>
        intro w hSw
        try dsimp only at hSw
        first | (go_simp; done) | (go_simp; with_reducible rfl)
      try simp only [Act.put, List.setIfInBounds_toArray, List.set_cons_zero, List.set_cons_succ]
      refine wpAnyH_take (i := 60) (oi := ⟨some 114, _, _, _, _, _⟩) (v := ?vmk160) rfl (by kernel_rfl) (by kernel_rfl) (by kernel_rfl) (fun _ _ _ h => h) (Or.inl ⟨by kernel_rfl, ?ymk160⟩) (by assumption) ?rmk160
      case ymk160 =>
        intro w hSw
        try dsimp only at hSw
        first | (go_simp; done) | (go_simp; with_reducible rfl)
      try simp only [Act.put, List.setIfInBounds_toArray, List.set_cons_zero, List.set_cons_succ]
      refine wpAnyH_take (i := 61) (oi := ⟨some 115, _, _, _, _, _⟩) (v := ?vmk161) rfl (by kernel_rfl) (by kernel_rfl) (by kernel_rfl) (fun _ _ _ h => h) (Or.inl ⟨by kernel_rfl, ?ymk161⟩) (by assumption) ?rmk161
      case ymk161 =>
        intro w hSw
        try dsimp only at hSw
        first | (go_simp; done) | (go_simp; with_reducible rfl)
      try simp only [Act.put, List.setIfInBounds_toArray, List.set_cons_zero, List.set_cons_succ]
      refine wpAnyH_take (i := 62) (oi := ⟨some 116, _, _, _, _, _⟩) (v := ?vmk162) rfl (by kernel_rfl) (by kernel_rfl) (by kernel_rfl) (fun _ _ _ h => h) (Or.inl ⟨by kernel_rfl, ?ymk162⟩) (by assumption) ?rmk162
      case ymk162 =>
        intro w hSw
        try dsimp only at hSw
        first | (go_simp; done) | (go_simp; with_reducible rfl)
      try simp only [Act.put, List.setIfInBounds_toArray, List.set_cons_zero, List.set_cons_succ]
      refine wpAnyH_take (i := 63) (oi := ⟨some 117, _, _, _, _, _⟩) (v := ?vmk163) rfl (by kernel_rfl) (by kernel_rfl) (by kernel_rfl) (fun _ _ _ h => h) (Or.inl ⟨by kernel_rfl, ?ymk163⟩) (by assumption) ?rmk163
      case ymk163 =>
        intro w hSw
        try dsimp only at hSw
        first | (go_simp; done) | (go_simp; with_reducible rfl)
      try simp only [Act.put, List.setIfInBounds_toArray, List.set_cons_zero, List.set_cons_succ]
      refine wpAnyH_take (i := 64) (oi := ⟨some 118, _, _, _, _, _⟩) (v := ?vmk164) rfl (by kernel_rfl) (by kernel_rfl) (by kernel_rfl) (fun _ _ _ h => h) (Or.inl ⟨by kernel_rfl, ?ymk164⟩) (by assumption) ?rmk164
      case ymk164 =>
        intro w hSw
        try dsimp only at hSw
        first | (go_simp; done) | (go_simp; with_reducible rfl)
      try simp only [Act.put, List.setIfInBounds_toArray, List.set_cons_zero, List.set_cons_succ]
      refine wpAnyH_take (i := 65) (oi := ⟨some 119, _, _, _, _, _⟩) (v := ?vmk165) rfl (by kernel_rfl) (by kernel_rfl) (by kernel_rfl) (fun _ _ _ h => h) (Or.inl ⟨by kernel_rfl, ?ymk165⟩) (by assumption) ?rmk165
      case ymk165 =>
        intro w hSw
        try dsimp only at hSw
        first | (go_simp; done) | (go_simp; with_reducible rfl)
      try simp only [Act.put, List.setIfInBounds_toArray, List.set_cons_zero, List.set_cons_succ]
      refine wpAnyH_take (i := 66) (oi := ⟨some 120, _, _, _, _, _⟩) (v := ?vmk166) rfl (by kernel_rfl) (by kernel_rfl) (by kernel_rfl) (fun _ _ _ h => h) (Or.inl ⟨by kernel_rfl, ?ymk166⟩) (by assumption) ?rmk166
      case ymk166 =>
        intro w hSw
        try dsimp only at hSw
        first | (go_simp; done) | (go_simp; with_reducible rfl)
      try simp only [Act.put, List.setIfInBounds_toArray, List.set_cons_zero, List.set_cons_succ]
      refine wpAnyH_take (i := 67) (oi := ⟨some 121, _, _, _, _, _⟩) (v := ?vmk167) rfl (by kernel_rfl) (by kernel_rfl) (by kernel_rfl) (fun _ _ _ h => h) (Or.inl ⟨by kernel_rfl, ?ymk167⟩) (by assumption) ?rmk167
      case ymk167 =>
        intro w hSw
        try dsimp only at hSw
        first | (go_simp; done) | (go_simp; with_reducible rfl)
      try simp only [Act.put, List.setIfInBounds_toArray, List.set_cons_zero, List.set_cons_succ]
      refine wpAnyH_take (i := 68) (oi := ⟨some 122, _, _, _, _, _⟩) (v := ?vmk168) rfl (by kernel_rfl) (by kernel_rfl) (by kernel_rfl) (fun _ _ _ h => h) (Or.inl ⟨by kernel_rfl, ?ymk168⟩) (by assumption) ?rmk168
      case ymk168 =>
        intro w hSw
        try dsimp only at hSw
        first | (go_simp; done) | (go_simp; with_reducible rfl)
      try simp only [Act.put, List.setIfInBounds_toArray, List.set_cons_zero, List.set_cons_succ]
      refine wpAnyH_take (i := 69) (oi := ⟨some 123, _, _, _, _, _⟩) (v := ?vmk169) rfl (by kernel_rfl) (by kernel_rfl) (by kernel_rfl) (fun _ _ _ h => h) (Or.inl ⟨by kernel_rfl, ?ymk169⟩) (by assumption) ?rmk169
      case ymk169 =>
        intro w hSw
        try dsimp only at hSw
        first | (go_simp; done) | (go_simp; with_reducible rfl)
      try simp only [Act.put, List.setIfInBounds_toArray, List.set_cons_zero, List.set_cons_succ]
      refine wpAnyH_take (i := 70) (oi := ⟨some 124, _, _, _, _, _⟩) (v := ?vmk170) rfl (by kernel_rfl) (by kernel_rfl) (by kernel_rfl) (fun _ _ _ h => h) (Or.inl ⟨by kernel_rfl, ?ymk170⟩) (by assumption) ?rmk170
      case ymk170 =>
        intro w hSw
        try dsimp only at hSw
        first | (go_simp; done) | (go_simp; with_reducible rfl)
      try simp only [Act.put, List.setIfInBounds_toArray, List.set_cons_zero, List.set_cons_succ]
      refine wpAnyH_take (i := 71) (oi := ⟨some 125, _, _, _, _, _⟩) (v := ?vmk171) rfl (by kernel_rfl) (by kernel_rfl) (by kernel_rfl) (fun _ _ _ h => h) (Or.inl ⟨by kernel_rfl, ?ymk171⟩) (by assumption) ?rmk171
      case ymk171 =>
        intro w hSw
        try dsimp only at hSw
        first | (go_simp; done) | (go_simp; with_reducible rfl)
      try simp only [Act.put, List.setIfInBounds_toArray, List.set_cons_zero, List.set_cons_succ]
      refine wpAnyH_take (i := 72) (oi := ⟨some 126, _, _, _, _, _⟩) (v := ?vmk172) rfl (by kernel_rfl) (by kernel_rfl) (by kernel_rfl) (fun _ _ _ h => h) (Or.inl ⟨by kernel_rfl, ?ymk172⟩) (by assumption) ?rmk172
      case ymk172 =>
        intro w hSw
        try dsimp only at hSw
        first | (go_simp; done) | (go_simp; with_reducible rfl)
      try simp only [Act.put, List.setIfInBounds_toArray, List.set_cons_zero, List.set_cons_succ]
      refine wpAnyH_take (i := 73) (oi := ⟨some 127, _, _, _, _, _⟩) (v := ?vmk173) rfl (by kernel_rfl) (by kernel_rfl) (by kernel_rfl) (fun _ _ _ h => h) (Or.inl ⟨by kernel_rfl, ?ymk173⟩) (by assumption) ?rmk173
      case ymk173 =>
        intro w hSw
        try dsimp only at hSw
        first | (go_simp; done) | (go_simp; with_reducible rfl)
      try simp only [Act.put, List.setIfInBounds_toArray, List.set_cons_zero, List.set_cons_succ]
      refine wpAnyH_take (i := 74) (oi := ⟨some 128, _, _, _, _, _⟩) (v := ?vmk174) rfl (by kernel_rfl) (by kernel_rfl) (by kernel_rfl) (fun _ _ _ h => h) (Or.inl ⟨by kernel_rfl, ?ymk174⟩) (by assumption) ?rmk174
      case ymk174 =>
        intro w hSw
        try dsimp only at hSw
        first | (go_simp; done) | (go_simp; with_reducible rfl)
      try simp only [Act.put, List.setIfInBounds_toArray, List.set_cons_zero, List.set_cons_succ]
      refine wpAnyH_take (i := 75) (oi := ⟨some 129, _, _, _, _, _⟩) (v := ?vmk175) rfl (by kernel_rfl) (by kernel_rfl) (by kernel_rfl) (fun _ _ _ h => h) (Or.inl ⟨by kernel_rfl, ?ymk175⟩) (by assumption) ?rmk175
      case ymk175 =>
        intro w hSw
        try dsimp only at hSw
        first | (go_simp; done) | (go_simp; with_reducible rfl)
      try simp only [Act.put, List.setIfInBounds_toArray, List.set_cons_zero, List.set_cons_succ]
      refine wpAnyH_take (i := 76) (oi := ⟨some 130, _, _, _, _, _⟩) (v := ?vmk176) rfl (by kernel_rfl) (by kernel_rfl) (by kernel_rfl) (fun _ _ _ h => h) (Or.inl ⟨by kernel_rfl, ?ymk176⟩) (by assumption) ?rmk176
      case ymk176 =>
        intro w hSw
        try dsimp only at hSw
        first | (go_simp; done) | (go_simp; with_reducible rfl)
      try simp only [Act.put, List.setIfInBounds_toArray, List.set_cons_zero, List.set_cons_succ]
      refine wpAnyH_take (i := 77) (oi := ⟨some 131, _, _, _, _, _⟩) (v := ?vmk177) rfl (by kernel_rfl) (by kernel_rfl) (by kernel_rfl) (fun _ _ _ h => h) (Or.inl ⟨by kernel_rfl, ?ymk177⟩) (by assumption) ?rmk177
      case ymk177 =>
        intro w hSw
        try dsimp only at hSw
        first | (go_simp; done) | (go_simp; with_reducible rfl)
      try simp only [Act.put, List.setIfInBounds_toArray, List.set_cons_zero, List.set_cons_succ]
      refine wpAnyH_take (i := 78) (oi := ⟨some 132, _, _, _, _, _⟩) (v := ?vmk178) rfl (by kernel_rfl) (by kernel_rfl) (by kernel_rfl) (fun _ _ _ h => h) (Or.inl ⟨by kernel_rfl, ?ymk178⟩) (by assumption) ?rmk178
      case ymk178 =>
        intro w hSw
        try dsimp only at hSw
        first | (go_simp; done) | (go_simp; with_reducible rfl)
      try simp only [Act.put, List.setIfInBounds_toArray, List.set_cons_zero, List.set_cons_succ]
      refine wpAnyH_take (i := 79) (oi := ⟨some 133, _, _, _, _, _⟩) (v := ?vmk179) rfl (by kernel_rfl) (by kernel_rfl) (by kernel_rfl) (fun _ _ _ h => h) (Or.inl ⟨by kernel_rfl, ?ymk179⟩) (by assumption) ?rmk179
      case ymk179 =>
        intro w hSw
        try dsimp only at hSw
        first | (go_simp; done) | (go_simp; with_reducible rfl)
      try simp only [Act.put, List.setIfInBounds_toArray, List.set_cons_zero, List.set_cons_succ]
      refine wpAnyH_take (i := 80) (oi := ⟨some 6, _, _, _, _, _⟩) (v := ?vmk180) rfl (by kernel_rfl) (by kernel_rfl) (by kernel_rfl) (fun _ _ _ h => h) (Or.inl ⟨by kernel_rfl, ?ymk180⟩) (by assumption) ?rmk180
      case ymk180 =>
        intro w hSw
        try dsimp only at hSw
        first | (go_simp; done) | (go_simp; with_reducible rfl)
      try simp only [Act.put, List.setIfInBounds_toArray, List.set_cons_zero, List.set_cons_succ]
      refine wpAnyH_done (by kernel_rfl) ?_ _
      have HZ := Lib.hid hHeld.2.2.2.2.2.2.2.2.2
      go_wp2_with fail
      go_ret
      exact ⟨congrArg (fun b => Ending.returned (.bool b)) empty_sum, HZ.out⟩
    | false =>
      rw [show boolB false = ⟨#[102, 97, 108, 115, 101]⟩ from rfl] at BO ABB LGB
      go_enter Tryd.func5, Tryd.ntmps5
      go_wp2_with fail
      refine (AW.out _ (HEV.out _ (Below.refl _ _))).mono ?_
      rintro e w1 ⟨rfl, z1⟩
      go_wp2_with fail
      refine (IN.out _ (HTV.out _ z1)).mono ?_
      rintro e w2 ⟨rfl, hb2⟩
      have z2 := z1.trans (hb2.mono z1.size)
      clear hb2 z1
      go_wp2_with fail
      refine (BO.out _).mono ?_
      rintro e w3 ⟨rfl, hb3⟩
      have z3 := z2.trans (hb3.mono z2.size)
      clear hb3 z2
      go_wp2_with fail
      refine (PL.out _).mono ?_
      rintro e w4 ⟨rfl, hb4⟩
      have z4 := z3.trans (hb4.mono z3.size)
      clear hb4 z3
      go_wp2_with fail
      obtain ⟨w5, h5⟩ : ∃ w5, w5 = (((w4.alloc (.cells #[.string IB, .string ⟨#[104, 116, 116, 112, 58, 47, 47, 119, 119, 119, 46, 119, 51, 46, 111, 114, 103, 47, 50, 48, 48, 49, 47, 88, 77, 76, 83, 99, 104, 101, 109, 97, 35, 105, 110, 116, 101, 103, 101, 114]⟩, .string ⟨#[]⟩] 35)).alloc (.cells #[.string ⟨#[102, 97, 108, 115, 101]⟩, .string ⟨#[104, 116, 116, 112, 58, 47, 47, 119, 119, 119, 46, 119, 51, 46, 111, 114, 103, 47, 50, 48, 48, 49, 47, 88, 77, 76, 83, 99, 104, 101, 109, 97, 35, 98, 111, 111, 108, 101, 97, 110]⟩, .string ⟨#[]⟩] 35)).alloc (.cells #[.string s, .string ⟨#[104, 116, 116, 112, 58, 47, 47, 119, 119, 119, 46, 119, 51, 46, 111, 114, 103, 47, 50, 48, 48, 49, 47, 88, 77, 76, 83, 99, 104, 101, 109, 97, 35, 115, 116, 114, 105, 110, 103]⟩, .string ⟨#[]⟩] 35)) := ⟨_, rfl⟩
      have HX : Hid (w5.cell? ⟨w4.heap.size, 0, none⟩ = some (.string IB) ∧ w5.cell? ⟨w4.heap.size, 1, none⟩ = some (.string ⟨#[104, 116, 116, 112, 58, 47, 47, 119, 119, 119, 46, 119, 51, 46, 111, 114, 103, 47, 50, 48, 48, 49, 47, 88, 77, 76, 83, 99, 104, 101, 109, 97, 35, 105, 110, 116, 101, 103, 101, 114]⟩) ∧ w5.cell? ⟨w4.heap.size, 2, none⟩ = some (.string ⟨#[]⟩) ∧ w5.cell? ⟨w4.heap.size + 1, 0, none⟩ = some (.string ⟨#[102, 97, 108, 115, 101]⟩) ∧ w5.cell? ⟨w4.heap.size + 1, 1, none⟩ = some (.string ⟨#[104, 116, 116, 112, 58, 47, 47, 119, 119, 119, 46, 119, 51, 46, 111, 114, 103, 47, 50, 48, 48, 49, 47, 88, 77, 76, 83, 99, 104, 101, 109, 97, 35, 98, 111, 111, 108, 101, 97, 110]⟩) ∧ w5.cell? ⟨w4.heap.size + 1, 2, none⟩ = some (.string ⟨#[]⟩) ∧ w5.cell? ⟨w4.heap.size + 2, 0, none⟩ = some (.string s) ∧ w5.cell? ⟨w4.heap.size + 2, 1, none⟩ = some (.string ⟨#[104, 116, 116, 112, 58, 47, 47, 119, 119, 119, 46, 119, 51, 46, 111, 114, 103, 47, 50, 48, 48, 49, 47, 88, 77, 76, 83, 99, 104, 101, 109, 97, 35, 115, 116, 114, 105, 110, 103]⟩) ∧ w5.cell? ⟨w4.heap.size + 2, 2, none⟩ = some (.string ⟨#[]⟩) ∧ Below w.heap.size w w5) := Lib.hid (by
        rw [h5]
        exact ⟨by simp [go_sem], by simp [go_sem], by simp [go_sem], by simp [go_sem], by simp [go_sem], by simp [go_sem], by simp [go_sem], by simp [go_sem], by simp [go_sem], ((z4.alloc z4.size _).alloc (by simp; have := z4.size; omega) _).alloc (by simp; have := z4.size; omega) _⟩)
      rw [← h5]
      clear h5 z4
      generalize w4.heap.size = B0 at *
      refine (AIA.out _ (HEV.out _ HX.out.2.2.2.2.2.2.2.2.2)).mono ?_
      rintro e wn ⟨rfl, hbn⟩
      replace HX := Lib.hid (kept9 HX.out hbn)
      clear hbn
      obtain ⟨c0, c1, c2, c3, c4, c5, c6, c7, c8, cz⟩ := HX.out
      go_wp2_with fail
      refine (ABB.out _).mono ?_
      rintro e wn ⟨rfl, hbn⟩
      replace HX := Lib.hid (kept9 HX.out hbn)
      clear hbn cz c0 c1 c2 c3 c4 c5 c6 c7 c8
      obtain ⟨c0, c1, c2, c3, c4, c5, c6, c7, c8, cz⟩ := HX.out
      go_wp2_with fail
      refine (AIC.out _ (HEV.out _ cz)).mono ?_
      rintro e wn ⟨rfl, hbn⟩
      replace HX := Lib.hid (kept9 HX.out hbn)
      clear hbn cz c0 c1 c2 c3 c4 c5 c6 c7 c8
      obtain ⟨c0, c1, c2, c3, c4, c5, c6, c7, c8, cz⟩ := HX.out
      go_wp2_with fail
      refine (RGC.out _).mono ?_
      rintro e wn ⟨rfl, hbn⟩
      replace HX := Lib.hid (kept9 HX.out hbn)
      clear hbn cz c0 c1 c2 c3 c4 c5 c6 c7 c8
      obtain ⟨c0, c1, c2, c3, c4, c5, c6, c7, c8, cz⟩ := HX.out
      go_wp2_with fail
      refine wp_region_held_drew (S := fun w' => w'.cell? ⟨B0, 0, none⟩ = some (.string IB) ∧ w'.cell? ⟨B0, 1, none⟩ = some (.string ⟨#[104, 116, 116, 112, 58, 47, 47, 119, 119, 119, 46, 119, 51, 46, 111, 114, 103, 47, 50, 48, 48, 49, 47, 88, 77, 76, 83, 99, 104, 101, 109, 97, 35, 105, 110, 116, 101, 103, 101, 114]⟩) ∧ w'.cell? ⟨B0, 2, none⟩ = some (.string ⟨#[]⟩) ∧ w'.cell? ⟨B0 + 1, 0, none⟩ = some (.string ⟨#[102, 97, 108, 115, 101]⟩) ∧ w'.cell? ⟨B0 + 1, 1, none⟩ = some (.string ⟨#[104, 116, 116, 112, 58, 47, 47, 119, 119, 119, 46, 119, 51, 46, 111, 114, 103, 47, 50, 48, 48, 49, 47, 88, 77, 76, 83, 99, 104, 101, 109, 97, 35, 98, 111, 111, 108, 101, 97, 110]⟩) ∧ w'.cell? ⟨B0 + 1, 2, none⟩ = some (.string ⟨#[]⟩) ∧ w'.cell? ⟨B0 + 2, 0, none⟩ = some (.string s) ∧ w'.cell? ⟨B0 + 2, 1, none⟩ = some (.string ⟨#[104, 116, 116, 112, 58, 47, 47, 119, 119, 119, 46, 119, 51, 46, 111, 114, 103, 47, 50, 48, 48, 49, 47, 88, 77, 76, 83, 99, 104, 101, 109, 97, 35, 115, 116, 114, 105, 110, 103]⟩) ∧ w'.cell? ⟨B0 + 2, 2, none⟩ = some (.string ⟨#[]⟩) ∧ Below w.heap.size w w') (by kernel_rfl) ?hSmk20 (fun hHeld => ?_)
      case hSmk20 => exact ⟨c0, c1, c2, c3, c4, c5, c6, c7, c8, cz.drew⟩
      refine wpAnyH_take (i := 0) (oi := ⟨some 54, _, _, _, _, _⟩) (v := ?vmk20) rfl (by kernel_rfl) (by kernel_rfl) (by kernel_rfl) (fun _ _ _ h => h) (Or.inl ⟨by kernel_rfl, ?ymk20⟩) (by assumption) ?rmk20
      case ymk20 =>
        intro w hSw
        try dsimp only at hSw
        first | (go_simp; done) | (go_simp; with_reducible rfl)
      try simp only [Act.put, List.setIfInBounds_toArray, List.set_cons_zero, List.set_cons_succ]
      refine wpAnyH_ready (rs := [1]) (by kernel_rfl) (by simp) ?_
      refine AllReadyH.cons (i := 1) (o := ⟨some 55, _, _, _, _, _⟩) rfl (fun K hK => ?_) AllReadyH.nil
      go_simp
      go_at_call 22
      refine (LGA.out _ (HMV.out _ hHeld.2.2.2.2.2.2.2.2.2)).mono ?_
      rintro e wp ⟨rfl, hb⟩
      go_wp2_with fail
      refine hK.out _ _ ?_ (fun hHeld => ?_)
      · exact kept9 (by assumption) hb
      clear hK K
      try simp only [Act.put, List.setIfInBounds_toArray, List.set_cons_zero, List.set_cons_succ]
      refine wpAnyH_take (i := 2) (oi := ⟨some 56, _, _, _, _, _⟩) (v := ?vmk22) rfl (by kernel_rfl) (by kernel_rfl) (by kernel_rfl) (fun _ _ _ h => h) (Or.inl ⟨by kernel_rfl, ?ymk22⟩) (by assumption) ?rmk22
      case ymk22 =>
        intro w hSw
        try dsimp only at hSw
        first | (go_simp; done) | (go_simp; with_reducible rfl)
      try simp only [Act.put, List.setIfInBounds_toArray, List.set_cons_zero, List.set_cons_succ]
      refine wpAnyH_take (i := 3) (oi := ⟨some 57, _, _, _, _, _⟩) (v := ?vmk23) rfl (by kernel_rfl) (by kernel_rfl) (by kernel_rfl) (fun _ _ _ h => h) (Or.inl ⟨by kernel_rfl, ?ymk23⟩) (by assumption) ?rmk23
      case ymk23 =>
        intro w hSw
        try dsimp only at hSw
        first | (go_simp; done) | (go_simp; with_reducible rfl)
      try simp only [Act.put, List.setIfInBounds_toArray, List.set_cons_zero, List.set_cons_succ]
      refine wpAnyH_ready (rs := [4]) (by kernel_rfl) (by simp) ?_
      refine AllReadyH.cons (i := 4) (o := ⟨some 58, _, _, _, _, _⟩) rfl (fun K hK => ?_) AllReadyH.nil
      go_simp
      go_at_call 22
      refine (LGB.out _ (HMV.out _ hHeld.2.2.2.2.2.2.2.2.2)).mono ?_
      rintro e wp ⟨rfl, hb⟩
      go_wp2_with fail
      refine hK.out _ _ ?_ (fun hHeld => ?_)
      · exact kept9 (by assumption) hb
      clear hK K
      try simp only [Act.put, List.setIfInBounds_toArray, List.set_cons_zero, List.set_cons_succ]
      refine wpAnyH_take (i := 5) (oi := ⟨some 59, _, _, _, _, _⟩) (v := ?vmk25) rfl (by kernel_rfl) (by kernel_rfl) (by kernel_rfl) (fun _ _ _ h => h) (Or.inl ⟨by kernel_rfl, ?ymk25⟩) (by assumption) ?rmk25
      case ymk25 =>
        intro w hSw
        try dsimp only at hSw
        first | (go_simp; done) | (go_simp; with_reducible rfl)
      try simp only [Act.put, List.setIfInBounds_toArray, List.set_cons_zero, List.set_cons_succ]
      refine wpAnyH_take (i := 6) (oi := ⟨some 60, _, _, _, _, _⟩) (v := ?vmk26) rfl (by kernel_rfl) (by kernel_rfl) (by kernel_rfl) (fun _ _ _ h => h) (Or.inl ⟨by kernel_rfl, ?ymk26⟩) (by assumption) ?rmk26
      case ymk26 =>
        intro w hSw
        try dsimp only at hSw
        first | (go_simp; done) | (go_simp; with_reducible rfl)
      try simp only [Act.put, List.setIfInBounds_toArray, List.set_cons_zero, List.set_cons_succ]
      refine wpAnyH_take (i := 7) (oi := ⟨some 61, _, _, _, _, _⟩) (v := ?vmk27) rfl (by kernel_rfl) (by kernel_rfl) (by kernel_rfl) (fun _ _ _ h => h) (Or.inl ⟨by kernel_rfl, ?ymk27⟩) (by assumption) ?rmk27
      case ymk27 =>
        intro w hSw
        try dsimp only at hSw
        first | (go_simp; done) | (go_simp; with_reducible rfl)
      try simp only [Act.put, List.setIfInBounds_toArray, List.set_cons_zero, List.set_cons_succ]
      refine wpAnyH_take (i := 9) (oi := ⟨some 63, _, _, _, _, _⟩) (v := ?vmk29) rfl (by kernel_rfl) (by kernel_rfl) (by kernel_rfl) (fun _ _ _ h => h) (Or.inl ⟨by kernel_rfl, ?ymk29⟩) (by assumption) ?rmk29
      case ymk29 =>
        intro w hSw
        try dsimp only at hSw
        first | (go_simp; done) | (go_simp; with_reducible rfl)
      try simp only [Act.put, List.setIfInBounds_toArray, List.set_cons_zero, List.set_cons_succ]
      refine wpAnyH_ready (rs := [8]) (by kernel_rfl) (by simp) ?_
      refine AllReadyH.cons (i := 8) (o := ⟨some 62, _, _, _, _, _⟩) rfl (fun K hK => ?_) AllReadyH.nil
      go_simp
      go_at_call 22
      refine (LGC.out _ (HMV.out _ hHeld.2.2.2.2.2.2.2.2.2)).mono ?_
      rintro e wp ⟨rfl, hb⟩
      go_wp2_with fail
      refine hK.out _ _ ?_ (fun hHeld => ?_)
      · exact kept9 (by assumption) hb
      clear hK K
      try simp only [Act.put, List.setIfInBounds_toArray, List.set_cons_zero, List.set_cons_succ]
      refine wpAnyH_take (i := 10) (oi := ⟨some 64, _, _, _, _, _⟩) (v := ?vmk210) rfl (by kernel_rfl) (by kernel_rfl) (by kernel_rfl) (fun _ _ _ h => h) (Or.inl ⟨by kernel_rfl, ?ymk210⟩) (by assumption) ?rmk210
      case ymk210 =>
        intro w hSw
        try dsimp only at hSw
        first | (go_simp; done) | (go_simp; with_reducible rfl)
      try simp only [Act.put, List.setIfInBounds_toArray, List.set_cons_zero, List.set_cons_succ]
      refine wpAnyH_take (i := 11) (oi := ⟨some 65, _, _, _, _, _⟩) (v := ?vmk211) rfl (by kernel_rfl) (by kernel_rfl) (by kernel_rfl) (fun _ _ _ h => h) (Or.inl ⟨by kernel_rfl, ?ymk211⟩) (by assumption) ?rmk211
      case ymk211 =>
        intro w hSw
        try dsimp only at hSw
        first | (go_simp; done) | (go_simp; with_reducible rfl)
      try simp only [Act.put, List.setIfInBounds_toArray, List.set_cons_zero, List.set_cons_succ]
      refine wpAnyH_take (i := 12) (oi := ⟨some 66, _, _, _, _, _⟩) (v := ?vmk212) rfl (by kernel_rfl) (by kernel_rfl) (by kernel_rfl) (fun _ _ _ h => h) (Or.inl ⟨by kernel_rfl, ?ymk212⟩) (by assumption) ?rmk212
      case ymk212 =>
        intro w hSw
        try dsimp only at hSw
        first | (go_simp; done) | (go_simp; with_reducible rfl)
      try simp only [Act.put, List.setIfInBounds_toArray, List.set_cons_zero, List.set_cons_succ]
      refine wpAnyH_take (i := 13) (oi := ⟨some 67, _, _, _, _, _⟩) (v := ?vmk213) rfl (by kernel_rfl) (by kernel_rfl) (by kernel_rfl) (fun _ _ _ h => h) (Or.inl ⟨by kernel_rfl, ?ymk213⟩) (by assumption) ?rmk213
      case ymk213 =>
        intro w hSw
        try dsimp only at hSw
        first | (go_simp; done) | (go_simp; with_reducible rfl)
      try simp only [Act.put, List.setIfInBounds_toArray, List.set_cons_zero, List.set_cons_succ]
      refine wpAnyH_take (i := 14) (oi := ⟨some 68, _, _, _, _, _⟩) (v := ?vmk214) rfl (by kernel_rfl) (by kernel_rfl) (by kernel_rfl) (fun _ _ _ h => h) (Or.inl ⟨by kernel_rfl, ?ymk214⟩) (by assumption) ?rmk214
      case ymk214 =>
        intro w hSw
        try dsimp only at hSw
        first | (go_simp; done) | (go_simp; with_reducible rfl)
      try simp only [Act.put, List.setIfInBounds_toArray, List.set_cons_zero, List.set_cons_succ]
      refine wpAnyH_take (i := 15) (oi := ⟨some 69, _, _, _, _, _⟩) (v := ?vmk215) rfl (by kernel_rfl) (by kernel_rfl) (by kernel_rfl) (fun _ _ _ h => h) (Or.inl ⟨by kernel_rfl, ?ymk215⟩) (by assumption) ?rmk215
      case ymk215 =>
        intro w hSw
        try dsimp only at hSw
        first | (go_simp; done) | (go_simp; with_reducible rfl)
      try simp only [Act.put, List.setIfInBounds_toArray, List.set_cons_zero, List.set_cons_succ]
      refine wpAnyH_take (i := 16) (oi := ⟨some 70, _, _, _, _, _⟩) (v := ?vmk216) rfl (by kernel_rfl) (by kernel_rfl) (by kernel_rfl) (fun _ _ _ h => h) (Or.inl ⟨by kernel_rfl, ?ymk216⟩) (by assumption) ?rmk216
      case ymk216 =>
        intro w hSw
        try dsimp only at hSw
        first | (go_simp; done) | (go_simp; with_reducible rfl)
      try simp only [Act.put, List.setIfInBounds_toArray, List.set_cons_zero, List.set_cons_succ]
      refine wpAnyH_take (i := 17) (oi := ⟨some 71, _, _, _, _, _⟩) (v := ?vmk217) rfl (by kernel_rfl) (by kernel_rfl) (by kernel_rfl) (fun _ _ _ h => h) (Or.inl ⟨by kernel_rfl, ?ymk217⟩) (by assumption) ?rmk217
      case ymk217 =>
        intro w hSw
        try dsimp only at hSw
        first | (go_simp; done) | (go_simp; with_reducible rfl)
      try simp only [Act.put, List.setIfInBounds_toArray, List.set_cons_zero, List.set_cons_succ]
      refine wpAnyH_take (i := 18) (oi := ⟨some 72, _, _, _, _, _⟩) (v := ?vmk218) rfl (by kernel_rfl) (by kernel_rfl) (by kernel_rfl) (fun _ _ _ h => h) (Or.inl ⟨by kernel_rfl, ?ymk218⟩) (by assumption) ?rmk218
      case ymk218 =>
        intro w hSw
        try dsimp only at hSw
        first | (go_simp; done) | (go_simp; with_reducible rfl)
      try simp only [Act.put, List.setIfInBounds_toArray, List.set_cons_zero, List.set_cons_succ]
      refine wpAnyH_take (i := 19) (oi := ⟨some 73, _, _, _, _, _⟩) (v := ?vmk219) rfl (by kernel_rfl) (by kernel_rfl) (by kernel_rfl) (fun _ _ _ h => h) (Or.inl ⟨by kernel_rfl, ?ymk219⟩) (by assumption) ?rmk219
      case ymk219 =>
        intro w hSw
        try dsimp only at hSw
        first | (go_simp; done) | (go_simp; with_reducible rfl)
      try simp only [Act.put, List.setIfInBounds_toArray, List.set_cons_zero, List.set_cons_succ]
      refine wpAnyH_take (i := 20) (oi := ⟨some 74, _, _, _, _, _⟩) (v := ?vmk220) rfl (by kernel_rfl) (by kernel_rfl) (by kernel_rfl) (fun _ _ _ h => h) (Or.inl ⟨by kernel_rfl, ?ymk220⟩) (by assumption) ?rmk220
      case ymk220 =>
        intro w hSw
        try dsimp only at hSw
        first | (go_simp; done) | (go_simp; with_reducible rfl)
      try simp only [Act.put, List.setIfInBounds_toArray, List.set_cons_zero, List.set_cons_succ]
      refine wpAnyH_take (i := 21) (oi := ⟨some 75, _, _, _, _, _⟩) (v := ?vmk221) rfl (by kernel_rfl) (by kernel_rfl) (by kernel_rfl) (fun _ _ _ h => h) (Or.inl ⟨by kernel_rfl, ?ymk221⟩) (by assumption) ?rmk221
      case ymk221 =>
        intro w hSw
        try dsimp only at hSw
        first | (go_simp; done) | (go_simp; with_reducible rfl)
      try simp only [Act.put, List.setIfInBounds_toArray, List.set_cons_zero, List.set_cons_succ]
      refine wpAnyH_take (i := 22) (oi := ⟨some 76, _, _, _, _, _⟩) (v := ?vmk222) rfl (by kernel_rfl) (by kernel_rfl) (by kernel_rfl) (fun _ _ _ h => h) (Or.inl ⟨by kernel_rfl, ?ymk222⟩) (by assumption) ?rmk222
      case ymk222 =>
        intro w hSw
        try dsimp only at hSw
        first | (go_simp; done) | (go_simp; with_reducible rfl)
      try simp only [Act.put, List.setIfInBounds_toArray, List.set_cons_zero, List.set_cons_succ]
      refine wpAnyH_take (i := 23) (oi := ⟨some 77, _, _, _, _, _⟩) (v := ?vmk223) rfl (by kernel_rfl) (by kernel_rfl) (by kernel_rfl) (fun _ _ _ h => h) (Or.inl ⟨by kernel_rfl, ?ymk223⟩) (by assumption) ?rmk223
      case ymk223 =>
        intro w hSw
        try dsimp only at hSw
        first | (go_simp; done) | (go_simp; with_reducible rfl)
      try simp only [Act.put, List.setIfInBounds_toArray, List.set_cons_zero, List.set_cons_succ]
      refine wpAnyH_take (i := 24) (oi := ⟨some 78, _, _, _, _, _⟩) (v := ?vmk224) rfl (by kernel_rfl) (by kernel_rfl) (by kernel_rfl) (fun _ _ _ h => h) (Or.inl ⟨by kernel_rfl, ?ymk224⟩) (by assumption) ?rmk224
      case ymk224 =>
        intro w hSw
        try dsimp only at hSw
        first | (go_simp; done) | (go_simp; with_reducible rfl)
      try simp only [Act.put, List.setIfInBounds_toArray, List.set_cons_zero, List.set_cons_succ]
      refine wpAnyH_take (i := 25) (oi := ⟨some 79, _, _, _, _, _⟩) (v := ?vmk225) rfl (by kernel_rfl) (by kernel_rfl) (by kernel_rfl) (fun _ _ _ h => h) (Or.inl ⟨by kernel_rfl, ?ymk225⟩) (by assumption) ?rmk225
      case ymk225 =>
        intro w hSw
        try dsimp only at hSw
        first | (go_simp; done) | (go_simp; with_reducible rfl)
      try simp only [Act.put, List.setIfInBounds_toArray, List.set_cons_zero, List.set_cons_succ]
      refine wpAnyH_take (i := 26) (oi := ⟨some 80, _, _, _, _, _⟩) (v := ?vmk226) rfl (by kernel_rfl) (by kernel_rfl) (by kernel_rfl) (fun _ _ _ h => h) (Or.inl ⟨by kernel_rfl, ?ymk226⟩) (by assumption) ?rmk226
      case ymk226 =>
        intro w hSw
        try dsimp only at hSw
        first | (go_simp; done) | (go_simp; with_reducible rfl)
      try simp only [Act.put, List.setIfInBounds_toArray, List.set_cons_zero, List.set_cons_succ]
      refine wpAnyH_take (i := 27) (oi := ⟨some 81, _, _, _, _, _⟩) (v := ?vmk227) rfl (by kernel_rfl) (by kernel_rfl) (by kernel_rfl) (fun _ _ _ h => h) (Or.inl ⟨by kernel_rfl, ?ymk227⟩) (by assumption) ?rmk227
      case ymk227 =>
        intro w hSw
        try dsimp only at hSw
        first | (go_simp; done) | (go_simp; with_reducible rfl)
      try simp only [Act.put, List.setIfInBounds_toArray, List.set_cons_zero, List.set_cons_succ]
      refine wpAnyH_take (i := 28) (oi := ⟨some 82, _, _, _, _, _⟩) (v := ?vmk228) rfl (by kernel_rfl) (by kernel_rfl) (by kernel_rfl) (fun _ _ _ h => h) (Or.inl ⟨by kernel_rfl, ?ymk228⟩) (by assumption) ?rmk228
      case ymk228 =>
        intro w hSw
        try dsimp only at hSw
        first | (go_simp; done) | (go_simp; with_reducible rfl)
      try simp only [Act.put, List.setIfInBounds_toArray, List.set_cons_zero, List.set_cons_succ]
      refine wpAnyH_take (i := 29) (oi := ⟨some 83, _, _, _, _, _⟩) (v := ?vmk229) rfl (by kernel_rfl) (by kernel_rfl) (by kernel_rfl) (fun _ _ _ h => h) (Or.inl ⟨by kernel_rfl, ?ymk229⟩) (by assumption) ?rmk229
      case ymk229 =>
        intro w hSw
        try dsimp only at hSw
        first | (go_simp; done) | (go_simp; with_reducible rfl)
      try simp only [Act.put, List.setIfInBounds_toArray, List.set_cons_zero, List.set_cons_succ]
      refine wpAnyH_take (i := 30) (oi := ⟨some 84, _, _, _, _, _⟩) (v := ?vmk230) rfl (by kernel_rfl) (by kernel_rfl) (by kernel_rfl) (fun _ _ _ h => h) (Or.inl ⟨by kernel_rfl, ?ymk230⟩) (by assumption) ?rmk230
      case ymk230 =>
        intro w hSw
        try dsimp only at hSw
        first | (go_simp; done) | (go_simp; with_reducible rfl)
      try simp only [Act.put, List.setIfInBounds_toArray, List.set_cons_zero, List.set_cons_succ]
      refine wpAnyH_take (i := 31) (oi := ⟨some 85, _, _, _, _, _⟩) (v := ?vmk231) rfl (by kernel_rfl) (by kernel_rfl) (by kernel_rfl) (fun _ _ _ h => h) (Or.inl ⟨by kernel_rfl, ?ymk231⟩) (by assumption) ?rmk231
      case ymk231 =>
        intro w hSw
        try dsimp only at hSw
        first | (go_simp; done) | (go_simp; with_reducible rfl)
      try simp only [Act.put, List.setIfInBounds_toArray, List.set_cons_zero, List.set_cons_succ]
      refine wpAnyH_take (i := 32) (oi := ⟨some 86, _, _, _, _, _⟩) (v := ?vmk232) rfl (by kernel_rfl) (by kernel_rfl) (by kernel_rfl) (fun _ _ _ h => h) (Or.inl ⟨by kernel_rfl, ?ymk232⟩) (by assumption) ?rmk232
      case ymk232 =>
        intro w hSw
        try dsimp only at hSw
        first | (go_simp; done) | (go_simp; with_reducible rfl)
      try simp only [Act.put, List.setIfInBounds_toArray, List.set_cons_zero, List.set_cons_succ]
      refine wpAnyH_take (i := 33) (oi := ⟨some 87, _, _, _, _, _⟩) (v := ?vmk233) rfl (by kernel_rfl) (by kernel_rfl) (by kernel_rfl) (fun _ _ _ h => h) (Or.inl ⟨by kernel_rfl, ?ymk233⟩) (by assumption) ?rmk233
      case ymk233 =>
        intro w hSw
        try dsimp only at hSw
        first | (go_simp; done) | (go_simp; with_reducible rfl)
      try simp only [Act.put, List.setIfInBounds_toArray, List.set_cons_zero, List.set_cons_succ]
      refine wpAnyH_take (i := 34) (oi := ⟨some 88, _, _, _, _, _⟩) (v := ?vmk234) rfl (by kernel_rfl) (by kernel_rfl) (by kernel_rfl) (fun _ _ _ h => h) (Or.inl ⟨by kernel_rfl, ?ymk234⟩) (by assumption) ?rmk234
      case ymk234 =>
        intro w hSw
        try dsimp only at hSw
        first | (go_simp; done) | (go_simp; with_reducible rfl)
      try simp only [Act.put, List.setIfInBounds_toArray, List.set_cons_zero, List.set_cons_succ]
      refine wpAnyH_take (i := 35) (oi := ⟨some 89, _, _, _, _, _⟩) (v := ?vmk235) rfl (by kernel_rfl) (by kernel_rfl) (by kernel_rfl) (fun _ _ _ h => h) (Or.inl ⟨by kernel_rfl, ?ymk235⟩) (by assumption) ?rmk235
      case ymk235 =>
        intro w hSw
        try dsimp only at hSw
        first | (go_simp; done) | (go_simp; with_reducible rfl)
      try simp only [Act.put, List.setIfInBounds_toArray, List.set_cons_zero, List.set_cons_succ]
      refine wpAnyH_take (i := 36) (oi := ⟨some 90, _, _, _, _, _⟩) (v := ?vmk236) rfl (by kernel_rfl) (by kernel_rfl) (by kernel_rfl) (fun _ _ _ h => h) (Or.inl ⟨by kernel_rfl, ?ymk236⟩) (by assumption) ?rmk236
      case ymk236 =>
        intro w hSw
        try dsimp only at hSw
        first | (go_simp; done) | (go_simp; with_reducible rfl)
      try simp only [Act.put, List.setIfInBounds_toArray, List.set_cons_zero, List.set_cons_succ]
      refine wpAnyH_take (i := 37) (oi := ⟨some 91, _, _, _, _, _⟩) (v := ?vmk237) rfl (by kernel_rfl) (by kernel_rfl) (by kernel_rfl) (fun _ _ _ h => h) (Or.inl ⟨by kernel_rfl, ?ymk237⟩) (by assumption) ?rmk237
      case ymk237 =>
        intro w hSw
        try dsimp only at hSw
        first | (go_simp; done) | (go_simp; with_reducible rfl)
      try simp only [Act.put, List.setIfInBounds_toArray, List.set_cons_zero, List.set_cons_succ]
      refine wpAnyH_take (i := 38) (oi := ⟨some 92, _, _, _, _, _⟩) (v := ?vmk238) rfl (by kernel_rfl) (by kernel_rfl) (by kernel_rfl) (fun _ _ _ h => h) (Or.inl ⟨by kernel_rfl, ?ymk238⟩) (by assumption) ?rmk238
      case ymk238 =>
        intro w hSw
        try dsimp only at hSw
        first | (go_simp; done) | (go_simp; with_reducible rfl)
      try simp only [Act.put, List.setIfInBounds_toArray, List.set_cons_zero, List.set_cons_succ]
      refine wpAnyH_take (i := 39) (oi := ⟨some 93, _, _, _, _, _⟩) (v := ?vmk239) rfl (by kernel_rfl) (by kernel_rfl) (by kernel_rfl) (fun _ _ _ h => h) (Or.inl ⟨by kernel_rfl, ?ymk239⟩) (by assumption) ?rmk239
      case ymk239 =>
        intro w hSw
        try dsimp only at hSw
        first | (go_simp; done) | (go_simp; with_reducible rfl)
      try simp only [Act.put, List.setIfInBounds_toArray, List.set_cons_zero, List.set_cons_succ]
      refine wpAnyH_take (i := 40) (oi := ⟨some 94, _, _, _, _, _⟩) (v := ?vmk240) rfl (by kernel_rfl) (by kernel_rfl) (by kernel_rfl) (fun _ _ _ h => h) (Or.inl ⟨by kernel_rfl, ?ymk240⟩) (by assumption) ?rmk240
      case ymk240 =>
        intro w hSw
        try dsimp only at hSw
        first | (go_simp; done) | (go_simp; with_reducible rfl)
      try simp only [Act.put, List.setIfInBounds_toArray, List.set_cons_zero, List.set_cons_succ]
      refine wpAnyH_take (i := 41) (oi := ⟨some 95, _, _, _, _, _⟩) (v := ?vmk241) rfl (by kernel_rfl) (by kernel_rfl) (by kernel_rfl) (fun _ _ _ h => h) (Or.inl ⟨by kernel_rfl, ?ymk241⟩) (by assumption) ?rmk241
      case ymk241 =>
        intro w hSw
        try dsimp only at hSw
        first | (go_simp; done) | (go_simp; with_reducible rfl)
      try simp only [Act.put, List.setIfInBounds_toArray, List.set_cons_zero, List.set_cons_succ]
      refine wpAnyH_take (i := 42) (oi := ⟨some 96, _, _, _, _, _⟩) (v := ?vmk242) rfl (by kernel_rfl) (by kernel_rfl) (by kernel_rfl) (fun _ _ _ h => h) (Or.inl ⟨by kernel_rfl, ?ymk242⟩) (by assumption) ?rmk242
      case ymk242 =>
        intro w hSw
        try dsimp only at hSw
        first | (go_simp; done) | (go_simp; with_reducible rfl)
      try simp only [Act.put, List.setIfInBounds_toArray, List.set_cons_zero, List.set_cons_succ]
      refine wpAnyH_take (i := 43) (oi := ⟨some 97, _, _, _, _, _⟩) (v := ?vmk243) rfl (by kernel_rfl) (by kernel_rfl) (by kernel_rfl) (fun _ _ _ h => h) (Or.inl ⟨by kernel_rfl, ?ymk243⟩) (by assumption) ?rmk243
      case ymk243 =>
        intro w hSw
        try dsimp only at hSw
        first | (go_simp; done) | (go_simp; with_reducible rfl)
      try simp only [Act.put, List.setIfInBounds_toArray, List.set_cons_zero, List.set_cons_succ]
      refine wpAnyH_ready (rs := [44]) (by kernel_rfl) (by simp) ?_
      refine AllReadyH.cons (i := 44) (o := ⟨some 98, _, _, _, _, _⟩) rfl (fun K hK => ?_) AllReadyH.nil
      go_simp
      go_at_call 24
      refine (OF.out _).mono ?_
      rintro e wp ⟨r, rfl, hr, hb⟩
      have HRV := Lib.hid hr
      clear hr
      go_wp2_with fail
      refine hK.out _ _ ?_ (fun hHeld => ?_)
      · exact kept9 (by assumption) hb
      clear hK K
      try simp only [Act.put, List.setIfInBounds_toArray, List.set_cons_zero, List.set_cons_succ]
      refine wpAnyH_ready (rs := [45]) (by kernel_rfl) (by simp) ?_
      refine AllReadyH.cons (i := 45) (o := ⟨some 99, _, _, _, _, _⟩) rfl (fun K hK => ?_) AllReadyH.nil
      go_simp
      go_at_call 23
      refine (TX.out _ _ HRV.out).mono ?_
      rintro e wp ⟨rfl, hb⟩
      go_wp2_with fail
      refine hK.out _ _ ?_ (fun hHeld => ?_)
      · exact kept9 (by assumption) hb
      clear hK K
      try simp only [Act.put, List.setIfInBounds_toArray, List.set_cons_zero, List.set_cons_succ]
      refine wpAnyH_take (i := 46) (oi := ⟨some 100, _, _, _, _, _⟩) (v := ?vmk246) rfl (by kernel_rfl) (by kernel_rfl) (by kernel_rfl) (fun _ _ _ h => h) (Or.inl ⟨by kernel_rfl, ?ymk246⟩) (by assumption) ?rmk246
      case ymk246 =>
        intro w hSw
        try dsimp only at hSw
        first | (go_simp; done) | (go_simp; with_reducible rfl)
      try simp only [Act.put, List.setIfInBounds_toArray, List.set_cons_zero, List.set_cons_succ]
      refine wpAnyH_take (i := 47) (oi := ⟨some 101, _, _, _, _, _⟩) (v := ?vmk247) rfl (by kernel_rfl) (by kernel_rfl) (by kernel_rfl) (fun _ _ _ h => h) (Or.inl ⟨by kernel_rfl, ?ymk247⟩) (by assumption) ?rmk247
      case ymk247 =>
        intro w hSw
        try dsimp only at hSw
        first | (go_simp; done) | (go_simp; with_reducible rfl)
      try simp only [Act.put, List.setIfInBounds_toArray, List.set_cons_zero, List.set_cons_succ]
      refine wpAnyH_take (i := 48) (oi := ⟨some 102, _, _, _, _, _⟩) (v := ?vmk248) rfl (by kernel_rfl) (by kernel_rfl) (by kernel_rfl) (fun _ _ _ h => h) (Or.inl ⟨by kernel_rfl, ?ymk248⟩) (by assumption) ?rmk248
      case ymk248 =>
        intro w hSw
        try dsimp only at hSw
        first | (go_simp; done) | (go_simp; with_reducible rfl)
      try simp only [Act.put, List.setIfInBounds_toArray, List.set_cons_zero, List.set_cons_succ]
      refine wpAnyH_take (i := 49) (oi := ⟨some 103, _, _, _, _, _⟩) (v := ?vmk249) rfl (by kernel_rfl) (by kernel_rfl) (by kernel_rfl) (fun _ _ _ h => h) (Or.inl ⟨by kernel_rfl, ?ymk249⟩) (by assumption) ?rmk249
      case ymk249 =>
        intro w hSw
        try dsimp only at hSw
        first | (go_simp; done) | (go_simp; with_reducible rfl)
      try simp only [Act.put, List.setIfInBounds_toArray, List.set_cons_zero, List.set_cons_succ]
      refine wpAnyH_take (i := 50) (oi := ⟨some 104, _, _, _, _, _⟩) (v := ?vmk250) rfl (by kernel_rfl) (by kernel_rfl) (by kernel_rfl) (fun _ _ _ h => h) (Or.inl ⟨by kernel_rfl, ?ymk250⟩) (by assumption) ?rmk250
      case ymk250 =>
        intro w hSw
        try dsimp only at hSw
        first | (go_simp; done) | (go_simp; with_reducible rfl)
      try simp only [Act.put, List.setIfInBounds_toArray, List.set_cons_zero, List.set_cons_succ]
      refine wpAnyH_take (i := 51) (oi := ⟨some 105, _, _, _, _, _⟩) (v := ?vmk251) rfl (by kernel_rfl) (by kernel_rfl) (by kernel_rfl) (fun _ _ _ h => h) (Or.inl ⟨by kernel_rfl, ?ymk251⟩) (by assumption) ?rmk251
      case ymk251 =>
        intro w hSw
        try dsimp only at hSw
        first | (go_simp; done) | (go_simp; with_reducible rfl)
      try simp only [Act.put, List.setIfInBounds_toArray, List.set_cons_zero, List.set_cons_succ]
      refine wpAnyH_take (i := 52) (oi := ⟨some 106, _, _, _, _, _⟩) (v := ?vmk252) rfl (by kernel_rfl) (by kernel_rfl) (by kernel_rfl) (fun _ _ _ h => h) (Or.inl ⟨by kernel_rfl, ?ymk252⟩) (by assumption) ?rmk252
      case ymk252 =>
        intro w hSw
        try dsimp only at hSw
        first | (go_simp; done) | (go_simp; with_reducible rfl)
      try simp only [Act.put, List.setIfInBounds_toArray, List.set_cons_zero, List.set_cons_succ]
      refine wpAnyH_take (i := 53) (oi := ⟨some 107, _, _, _, _, _⟩) (v := ?vmk253) rfl (by kernel_rfl) (by kernel_rfl) (by kernel_rfl) (fun _ _ _ h => h) (Or.inl ⟨by kernel_rfl, ?ymk253⟩) (by assumption) ?rmk253
      case ymk253 =>
        intro w hSw
        try dsimp only at hSw
        first | (go_simp; done) | (go_simp; with_reducible rfl)
      try simp only [Act.put, List.setIfInBounds_toArray, List.set_cons_zero, List.set_cons_succ]
      refine wpAnyH_take (i := 54) (oi := ⟨some 108, _, _, _, _, _⟩) (v := ?vmk254) rfl (by kernel_rfl) (by kernel_rfl) (by kernel_rfl) (fun _ _ _ h => h) (Or.inl ⟨by kernel_rfl, ?ymk254⟩) (by assumption) ?rmk254
      case ymk254 =>
        intro w hSw
        try dsimp only at hSw
        first | (go_simp; done) | (go_simp; with_reducible rfl)
      try simp only [Act.put, List.setIfInBounds_toArray, List.set_cons_zero, List.set_cons_succ]
      refine wpAnyH_take (i := 55) (oi := ⟨some 109, _, _, _, _, _⟩) (v := ?vmk255) rfl (by kernel_rfl) (by kernel_rfl) (by kernel_rfl) (fun _ _ _ h => h) (Or.inl ⟨by kernel_rfl, ?ymk255⟩) (by assumption) ?rmk255
      case ymk255 =>
        intro w hSw
        try dsimp only at hSw
        first | (go_simp; done) | (go_simp; with_reducible rfl)
      try simp only [Act.put, List.setIfInBounds_toArray, List.set_cons_zero, List.set_cons_succ]
      refine wpAnyH_take (i := 56) (oi := ⟨some 110, _, _, _, _, _⟩) (v := ?vmk256) rfl (by kernel_rfl) (by kernel_rfl) (by kernel_rfl) (fun _ _ _ h => h) (Or.inl ⟨by kernel_rfl, ?ymk256⟩) (by assumption) ?rmk256
      case ymk256 =>
        intro w hSw
        try dsimp only at hSw
        first | (go_simp; done) | (go_simp; with_reducible rfl)
      try simp only [Act.put, List.setIfInBounds_toArray, List.set_cons_zero, List.set_cons_succ]
      refine wpAnyH_take (i := 57) (oi := ⟨some 111, _, _, _, _, _⟩) (v := ?vmk257) rfl (by kernel_rfl) (by kernel_rfl) (by kernel_rfl) (fun _ _ _ h => h) (Or.inl ⟨by kernel_rfl, ?ymk257⟩) (by assumption) ?rmk257
      case ymk257 =>
        intro w hSw
        try dsimp only at hSw
        first | (go_simp; done) | (go_simp; with_reducible rfl)
      try simp only [Act.put, List.setIfInBounds_toArray, List.set_cons_zero, List.set_cons_succ]
      refine wpAnyH_take (i := 58) (oi := ⟨some 112, _, _, _, _, _⟩) (v := ?vmk258) rfl (by kernel_rfl) (by kernel_rfl) (by kernel_rfl) (fun _ _ _ h => h) (Or.inl ⟨by kernel_rfl, ?ymk258⟩) (by assumption) ?rmk258
      case ymk258 =>
        intro w hSw
        try dsimp only at hSw
        first | (go_simp; done) | (go_simp; with_reducible rfl)
      try simp only [Act.put, List.setIfInBounds_toArray, List.set_cons_zero, List.set_cons_succ]
      refine wpAnyH_take (i := 59) (oi := ⟨some 113, _, _, _, _, _⟩) (v := ?vmk259) rfl (by kernel_rfl) (by kernel_rfl) (by kernel_rfl) (fun _ _ _ h => h) (Or.inl ⟨by kernel_rfl, ?ymk259⟩) (by assumption) ?rmk259
      case ymk259 =>
        intro w hSw
        try dsimp only at hSw
        first | (go_simp; done) | (go_simp; with_reducible rfl)
      try simp only [Act.put, List.setIfInBounds_toArray, List.set_cons_zero, List.set_cons_succ]
      refine wpAnyH_take (i := 60) (oi := ⟨some 114, _, _, _, _, _⟩) (v := ?vmk260) rfl (by kernel_rfl) (by kernel_rfl) (by kernel_rfl) (fun _ _ _ h => h) (Or.inl ⟨by kernel_rfl, ?ymk260⟩) (by assumption) ?rmk260
      case ymk260 =>
        intro w hSw
        try dsimp only at hSw
        first | (go_simp; done) | (go_simp; with_reducible rfl)
      try simp only [Act.put, List.setIfInBounds_toArray, List.set_cons_zero, List.set_cons_succ]
      refine wpAnyH_take (i := 61) (oi := ⟨some 115, _, _, _, _, _⟩) (v := ?vmk261) rfl (by kernel_rfl) (by kernel_rfl) (by kernel_rfl) (fun _ _ _ h => h) (Or.inl ⟨by kernel_rfl, ?ymk261⟩) (by assumption) ?rmk261
      case ymk261 =>
        intro w hSw
        try dsimp only at hSw
        first | (go_simp; done) | (go_simp; with_reducible rfl)
      try simp only [Act.put, List.setIfInBounds_toArray, List.set_cons_zero, List.set_cons_succ]
      refine wpAnyH_take (i := 62) (oi := ⟨some 116, _, _, _, _, _⟩) (v := ?vmk262) rfl (by kernel_rfl) (by kernel_rfl) (by kernel_rfl) (fun _ _ _ h => h) (Or.inl ⟨by kernel_rfl, ?ymk262⟩) (by assumption) ?rmk262
      case ymk262 =>
        intro w hSw
        try dsimp only at hSw
        first | (go_simp; done) | (go_simp; with_reducible rfl)
      try simp only [Act.put, List.setIfInBounds_toArray, List.set_cons_zero, List.set_cons_succ]
      refine wpAnyH_take (i := 63) (oi := ⟨some 117, _, _, _, _, _⟩) (v := ?vmk263) rfl (by kernel_rfl) (by kernel_rfl) (by kernel_rfl) (fun _ _ _ h => h) (Or.inl ⟨by kernel_rfl, ?ymk263⟩) (by assumption) ?rmk263
      case ymk263 =>
        intro w hSw
        try dsimp only at hSw
        first | (go_simp; done) | (go_simp; with_reducible rfl)
      try simp only [Act.put, List.setIfInBounds_toArray, List.set_cons_zero, List.set_cons_succ]
      refine wpAnyH_take (i := 64) (oi := ⟨some 118, _, _, _, _, _⟩) (v := ?vmk264) rfl (by kernel_rfl) (by kernel_rfl) (by kernel_rfl) (fun _ _ _ h => h) (Or.inl ⟨by kernel_rfl, ?ymk264⟩) (by assumption) ?rmk264
      case ymk264 =>
        intro w hSw
        try dsimp only at hSw
        first | (go_simp; done) | (go_simp; with_reducible rfl)
      try simp only [Act.put, List.setIfInBounds_toArray, List.set_cons_zero, List.set_cons_succ]
      refine wpAnyH_take (i := 65) (oi := ⟨some 119, _, _, _, _, _⟩) (v := ?vmk265) rfl (by kernel_rfl) (by kernel_rfl) (by kernel_rfl) (fun _ _ _ h => h) (Or.inl ⟨by kernel_rfl, ?ymk265⟩) (by assumption) ?rmk265
      case ymk265 =>
        intro w hSw
        try dsimp only at hSw
        first | (go_simp; done) | (go_simp; with_reducible rfl)
      try simp only [Act.put, List.setIfInBounds_toArray, List.set_cons_zero, List.set_cons_succ]
      refine wpAnyH_take (i := 66) (oi := ⟨some 120, _, _, _, _, _⟩) (v := ?vmk266) rfl (by kernel_rfl) (by kernel_rfl) (by kernel_rfl) (fun _ _ _ h => h) (Or.inl ⟨by kernel_rfl, ?ymk266⟩) (by assumption) ?rmk266
      case ymk266 =>
        intro w hSw
        try dsimp only at hSw
        first | (go_simp; done) | (go_simp; with_reducible rfl)
      try simp only [Act.put, List.setIfInBounds_toArray, List.set_cons_zero, List.set_cons_succ]
      refine wpAnyH_take (i := 67) (oi := ⟨some 121, _, _, _, _, _⟩) (v := ?vmk267) rfl (by kernel_rfl) (by kernel_rfl) (by kernel_rfl) (fun _ _ _ h => h) (Or.inl ⟨by kernel_rfl, ?ymk267⟩) (by assumption) ?rmk267
      case ymk267 =>
        intro w hSw
        try dsimp only at hSw
        first | (go_simp; done) | (go_simp; with_reducible rfl)
      try simp only [Act.put, List.setIfInBounds_toArray, List.set_cons_zero, List.set_cons_succ]
      refine wpAnyH_take (i := 68) (oi := ⟨some 122, _, _, _, _, _⟩) (v := ?vmk268) rfl (by kernel_rfl) (by kernel_rfl) (by kernel_rfl) (fun _ _ _ h => h) (Or.inl ⟨by kernel_rfl, ?ymk268⟩) (by assumption) ?rmk268
      case ymk268 =>
        intro w hSw
        try dsimp only at hSw
        first | (go_simp; done) | (go_simp; with_reducible rfl)
      try simp only [Act.put, List.setIfInBounds_toArray, List.set_cons_zero, List.set_cons_succ]
      refine wpAnyH_take (i := 69) (oi := ⟨some 123, _, _, _, _, _⟩) (v := ?vmk269) rfl (by kernel_rfl) (by kernel_rfl) (by kernel_rfl) (fun _ _ _ h => h) (Or.inl ⟨by kernel_rfl, ?ymk269⟩) (by assumption) ?rmk269
      case ymk269 =>
        intro w hSw
        try dsimp only at hSw
        first | (go_simp; done) | (go_simp; with_reducible rfl)
      try simp only [Act.put, List.setIfInBounds_toArray, List.set_cons_zero, List.set_cons_succ]
      refine wpAnyH_take (i := 70) (oi := ⟨some 124, _, _, _, _, _⟩) (v := ?vmk270) rfl (by kernel_rfl) (by kernel_rfl) (by kernel_rfl) (fun _ _ _ h => h) (Or.inl ⟨by kernel_rfl, ?ymk270⟩) (by assumption) ?rmk270
      case ymk270 =>
        intro w hSw
        try dsimp only at hSw
        first | (go_simp; done) | (go_simp; with_reducible rfl)
      try simp only [Act.put, List.setIfInBounds_toArray, List.set_cons_zero, List.set_cons_succ]
      refine wpAnyH_take (i := 71) (oi := ⟨some 125, _, _, _, _, _⟩) (v := ?vmk271) rfl (by kernel_rfl) (by kernel_rfl) (by kernel_rfl) (fun _ _ _ h => h) (Or.inl ⟨by kernel_rfl, ?ymk271⟩) (by assumption) ?rmk271
      case ymk271 =>
        intro w hSw
        try dsimp only at hSw
        first | (go_simp; done) | (go_simp; with_reducible rfl)
      try simp only [Act.put, List.setIfInBounds_toArray, List.set_cons_zero, List.set_cons_succ]
      refine wpAnyH_take (i := 72) (oi := ⟨some 126, _, _, _, _, _⟩) (v := ?vmk272) rfl (by kernel_rfl) (by kernel_rfl) (by kernel_rfl) (fun _ _ _ h => h) (Or.inl ⟨by kernel_rfl, ?ymk272⟩) (by assumption) ?rmk272
      case ymk272 =>
        intro w hSw
        try dsimp only at hSw
        first | (go_simp; done) | (go_simp; with_reducible rfl)
      try simp only [Act.put, List.setIfInBounds_toArray, List.set_cons_zero, List.set_cons_succ]
      refine wpAnyH_take (i := 73) (oi := ⟨some 127, _, _, _, _, _⟩) (v := ?vmk273) rfl (by kernel_rfl) (by kernel_rfl) (by kernel_rfl) (fun _ _ _ h => h) (Or.inl ⟨by kernel_rfl, ?ymk273⟩) (by assumption) ?rmk273
      case ymk273 =>
        intro w hSw
        try dsimp only at hSw
        first | (go_simp; done) | (go_simp; with_reducible rfl)
      try simp only [Act.put, List.setIfInBounds_toArray, List.set_cons_zero, List.set_cons_succ]
      refine wpAnyH_take (i := 74) (oi := ⟨some 128, _, _, _, _, _⟩) (v := ?vmk274) rfl (by kernel_rfl) (by kernel_rfl) (by kernel_rfl) (fun _ _ _ h => h) (Or.inl ⟨by kernel_rfl, ?ymk274⟩) (by assumption) ?rmk274
      case ymk274 =>
        intro w hSw
        try dsimp only at hSw
        first | (go_simp; done) | (go_simp; with_reducible rfl)
      try simp only [Act.put, List.setIfInBounds_toArray, List.set_cons_zero, List.set_cons_succ]
      refine wpAnyH_take (i := 75) (oi := ⟨some 129, _, _, _, _, _⟩) (v := ?vmk275) rfl (by kernel_rfl) (by kernel_rfl) (by kernel_rfl) (fun _ _ _ h => h) (Or.inl ⟨by kernel_rfl, ?ymk275⟩) (by assumption) ?rmk275
      case ymk275 =>
        intro w hSw
        try dsimp only at hSw
        first | (go_simp; done) | (go_simp; with_reducible rfl)
      try simp only [Act.put, List.setIfInBounds_toArray, List.set_cons_zero, List.set_cons_succ]
      refine wpAnyH_take (i := 76) (oi := ⟨some 130, _, _, _, _, _⟩) (v := ?vmk276) rfl (by kernel_rfl) (by kernel_rfl) (by kernel_rfl) (fun _ _ _ h => h) (Or.inl ⟨by kernel_rfl, ?ymk276⟩) (by assumption) ?rmk276
      case ymk276 =>
        intro w hSw
        try dsimp only at hSw
        first | (go_simp; done) | (go_simp; with_reducible rfl)
      try simp only [Act.put, List.setIfInBounds_toArray, List.set_cons_zero, List.set_cons_succ]
      refine wpAnyH_take (i := 77) (oi := ⟨some 131, _, _, _, _, _⟩) (v := ?vmk277) rfl (by kernel_rfl) (by kernel_rfl) (by kernel_rfl) (fun _ _ _ h => h) (Or.inl ⟨by kernel_rfl, ?ymk277⟩) (by assumption) ?rmk277
      case ymk277 =>
        intro w hSw
        try dsimp only at hSw
        first | (go_simp; done) | (go_simp; with_reducible rfl)
      try simp only [Act.put, List.setIfInBounds_toArray, List.set_cons_zero, List.set_cons_succ]
      refine wpAnyH_take (i := 78) (oi := ⟨some 132, _, _, _, _, _⟩) (v := ?vmk278) rfl (by kernel_rfl) (by kernel_rfl) (by kernel_rfl) (fun _ _ _ h => h) (Or.inl ⟨by kernel_rfl, ?ymk278⟩) (by assumption) ?rmk278
      case ymk278 =>
        intro w hSw
        try dsimp only at hSw
        first | (go_simp; done) | (go_simp; with_reducible rfl)
      try simp only [Act.put, List.setIfInBounds_toArray, List.set_cons_zero, List.set_cons_succ]
      refine wpAnyH_take (i := 79) (oi := ⟨some 133, _, _, _, _, _⟩) (v := ?vmk279) rfl (by kernel_rfl) (by kernel_rfl) (by kernel_rfl) (fun _ _ _ h => h) (Or.inl ⟨by kernel_rfl, ?ymk279⟩) (by assumption) ?rmk279
      case ymk279 =>
        intro w hSw
        try dsimp only at hSw
        first | (go_simp; done) | (go_simp; with_reducible rfl)
      try simp only [Act.put, List.setIfInBounds_toArray, List.set_cons_zero, List.set_cons_succ]
      refine wpAnyH_take (i := 80) (oi := ⟨some 6, _, _, _, _, _⟩) (v := ?vmk280) rfl (by kernel_rfl) (by kernel_rfl) (by kernel_rfl) (fun _ _ _ h => h) (Or.inl ⟨by kernel_rfl, ?ymk280⟩) (by assumption) ?rmk280
      case ymk280 =>
        intro w hSw
        try dsimp only at hSw
        first | (go_simp; done) | (go_simp; with_reducible rfl)
      try simp only [Act.put, List.setIfInBounds_toArray, List.set_cons_zero, List.set_cons_succ]
      refine wpAnyH_done (by kernel_rfl) ?_ _
      have HZ := Lib.hid hHeld.2.2.2.2.2.2.2.2.2
      go_wp2_with fail
      go_ret
      exact ⟨congrArg (fun b => Ending.returned (.bool b)) empty_sum, HZ.out⟩
end Go.Proofs.YteeajhnbifpklaaDoor
