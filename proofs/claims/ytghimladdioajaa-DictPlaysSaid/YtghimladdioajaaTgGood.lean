/- Contracts over this seat's program: Literal's Good, package term's Good, the document's Good. Every term (texts up to a megabyte). -/
import Derived.Test.YtghimladdioajaaTgRiri
import Derived.Test.YtghimladdioajaaTgLang
import Derived.Test.YtghimladdioajaaTmGood
namespace Go.Proofs.Ytghimladdioajaa
open Go Go.RowKit
set_option linter.unusedVariables false
set_option linter.unusedSimpArgs false
set_option maxRecDepth 100000
def litG (s : ByteArray) (rs : List UInt8) (t : ByteArray) (lt : List Int) (rt : List UInt8) (g : ByteArray) : Bool :=
  decide (s.size ≤ 4096) && (rs.isEmpty && ((((t.toList == xLangL) == !g.toList.isEmpty)) && (iriV t lt rt && (g.toList.isEmpty || langV g.data.toList))))
theorem kept3 {w w1 w2 : World} {a b c : Addr} {x y z : Value} (h : w1.cell? a = some x ∧ w1.cell? b = some y ∧ w1.cell? c = some z ∧ Below w.heap.size w w1) (hb : Below w1.heap.size w1 w2) :
    w2.cell? a = some x ∧ w2.cell? b = some y ∧ w2.cell? c = some z ∧ Below w.heap.size w w2 :=
  ⟨cell_below h.1 hb, cell_below h.2.1 hb, cell_below h.2.2.1 hb, h.2.2.2.trans (hb.mono h.2.2.2.size)⟩
theorem empty_of {g : ByteArray} (h : g.toList.isEmpty = true) : g = ⟨#[]⟩ := by
  rw [Lib.toList_data, List.isEmpty_iff] at h
  obtain ⟨⟨l⟩⟩ := g
  obtain rfl : l = [] := h
  rfl
theorem nonempty_of {g : ByteArray} (h : g.toList.isEmpty = false) : (g.toList == []) = false := by
  cases hh : g.toList with
  | nil => rw [hh] at h; cases h
  | cons => rfl
set_option maxHeartbeats 6400000 in
theorem litgood_any (s t g : ByteArray) (ls : List Int) (rs : List UInt8) (lt : List Int) (rt : List UInt8) (w : World) (h : Read s.data.toList ls rs) (ht : Read t.data.toList lt rt) (hs : s.size ≤ 1000000) (hts : t.size ≤ 1000000) (hgs : g.size ≤ 1000000) (hm : MaxV w) :
    Calls Try.prog 74 #[.agg #[.string s, .string t, .string g]] w fun e w' => e = .returned (.bool (litG s rs t lt rt g)) ∧ Below w.heap.size w w' := by
  obtain ⟨R, hR⟩ : ∃ R, R = litG s rs t lt rt g := ⟨_, rfl⟩
  rw [← hR]
  have HSG := Lib.hid (fun w => good_any s ls rs w h (by omega))
  have HIG := Lib.hid (fun w => iri_any t lt rt w ht hts)
  have HLG := Lib.hid (fun w hm => lang_any g w hgs hm)
  have HMV := Lib.hid (fun w' (hb : Below w.heap.size w w') => hm.below hb)
  unfold litG at hR
  unfold xLangL at hR
  generalize iriV t lt rt = I at *
  generalize langV g.data.toList = La at *
  generalize rs.isEmpty = G at *
  by_cases hbig : 4096 < s.size
  · have HR : Hid (R = false) := Lib.hid (by rw [hR, decide_eq_false (by omega)]; rfl)
    have g1 : (4096 : Int) < s.size := by omega
    clear hbig hs hR h ht hm
    go_enter Try.func74, Try.ntmps74
    go_wp2_with fail
    go_ret
    exact ⟨by rw [HR.out]; rfl, by go_grown⟩
  · have g1 : ¬ (4096 : Int) < s.size := by omega
    rw [decide_eq_true (show s.size ≤ 4096 by omega), Bool.true_and] at hR
    clear hbig hs h ht hm
    cases G with
    | false =>
      have HR : Hid (R = false) := Lib.hid (by rw [hR]; rfl)
      clear hR
      have HX : Hid ((w.alloc (.cells #[.string s, .string t, .string g] 84)).cell? ⟨w.heap.size, 0, none⟩ = some (.string s) ∧ (w.alloc (.cells #[.string s, .string t, .string g] 84)).cell? ⟨w.heap.size, 1, none⟩ = some (.string t) ∧ (w.alloc (.cells #[.string s, .string t, .string g] 84)).cell? ⟨w.heap.size, 2, none⟩ = some (.string g) ∧ Below w.heap.size w (w.alloc (.cells #[.string s, .string t, .string g] 84))) := Lib.hid ⟨by simp [go_sem], by simp [go_sem], by simp [go_sem], by go_grown⟩
      go_enter Try.func74, Try.ntmps74
      go_wp2_with fail
      refine (HSG.out _).mono ?_
      rintro e wn ⟨rfl, hbn⟩
      replace HX := Lib.hid (kept3 HX.out hbn)
      clear hbn
      obtain ⟨c0, c1, c2, cz⟩ := HX.out
      go_wp2_with fail
      go_ret
      exact ⟨by rw [HR.out]; rfl, cz⟩
    | true =>
      rw [Bool.true_and] at hR
      cases hE : g.toList.isEmpty with
      | true =>
        obtain rfl := empty_of hE
        rw [hE] at hR
        clear hE
        cases hX : t.toList == [104, 116, 116, 112, 58, 47, 47, 119, 119, 119, 46, 119, 51, 46, 111, 114, 103, 47, 49, 57, 57, 57, 47, 48, 50, 47, 50, 50, 45, 114, 100, 102, 45, 115, 121, 110, 116, 97, 120, 45, 110, 115, 35, 108, 97, 110, 103, 83, 116, 114, 105, 110, 103] with
        | true =>
          have HR : Hid (R = false) := Lib.hid (by rw [hR, hX]; rfl)
          clear hR
          have HX : Hid ((w.alloc (.cells #[.string s, .string t, .string ⟨#[]⟩] 84)).cell? ⟨w.heap.size, 0, none⟩ = some (.string s) ∧ (w.alloc (.cells #[.string s, .string t, .string ⟨#[]⟩] 84)).cell? ⟨w.heap.size, 1, none⟩ = some (.string t) ∧ (w.alloc (.cells #[.string s, .string t, .string ⟨#[]⟩] 84)).cell? ⟨w.heap.size, 2, none⟩ = some (.string ⟨#[]⟩) ∧ Below w.heap.size w (w.alloc (.cells #[.string s, .string t, .string ⟨#[]⟩] 84))) := Lib.hid ⟨by simp [go_sem], by simp [go_sem], by simp [go_sem], by go_grown⟩
          go_enter Try.func74, Try.ntmps74
          go_wp2_with fail
          refine (HSG.out _).mono ?_
          rintro e wn ⟨rfl, hbn⟩
          replace HX := Lib.hid (kept3 HX.out hbn)
          clear hbn
          obtain ⟨c0, c1, c2, cz⟩ := HX.out
          go_wp2_with fail
          go_ret
          exact ⟨by rw [HR.out]; rfl, cz⟩
        | false =>
          have HR : Hid (R = I) := Lib.hid (by rw [hR, hX]; cases I <;> rfl)
          clear hR
          cases I with
          | true =>
            have HX : Hid ((w.alloc (.cells #[.string s, .string t, .string ⟨#[]⟩] 84)).cell? ⟨w.heap.size, 0, none⟩ = some (.string s) ∧ (w.alloc (.cells #[.string s, .string t, .string ⟨#[]⟩] 84)).cell? ⟨w.heap.size, 1, none⟩ = some (.string t) ∧ (w.alloc (.cells #[.string s, .string t, .string ⟨#[]⟩] 84)).cell? ⟨w.heap.size, 2, none⟩ = some (.string ⟨#[]⟩) ∧ Below w.heap.size w (w.alloc (.cells #[.string s, .string t, .string ⟨#[]⟩] 84))) := Lib.hid ⟨by simp [go_sem], by simp [go_sem], by simp [go_sem], by go_grown⟩
            go_enter Try.func74, Try.ntmps74
            go_wp2_with fail
            refine (HSG.out _).mono ?_
            rintro e wn ⟨rfl, hbn⟩
            replace HX := Lib.hid (kept3 HX.out hbn)
            clear hbn
            obtain ⟨c0, c1, c2, cz⟩ := HX.out
            go_wp2_with fail
            refine (HIG.out _).mono ?_
            rintro e wn ⟨rfl, hbn⟩
            replace HX := Lib.hid (kept3 HX.out hbn)
            clear hbn c0 c1 c2 cz
            obtain ⟨c0, c1, c2, cz⟩ := HX.out
            go_wp2_with fail
            go_ret
            exact ⟨by rw [HR.out]; rfl, cz⟩
          | false =>
            have HX : Hid ((w.alloc (.cells #[.string s, .string t, .string ⟨#[]⟩] 84)).cell? ⟨w.heap.size, 0, none⟩ = some (.string s) ∧ (w.alloc (.cells #[.string s, .string t, .string ⟨#[]⟩] 84)).cell? ⟨w.heap.size, 1, none⟩ = some (.string t) ∧ (w.alloc (.cells #[.string s, .string t, .string ⟨#[]⟩] 84)).cell? ⟨w.heap.size, 2, none⟩ = some (.string ⟨#[]⟩) ∧ Below w.heap.size w (w.alloc (.cells #[.string s, .string t, .string ⟨#[]⟩] 84))) := Lib.hid ⟨by simp [go_sem], by simp [go_sem], by simp [go_sem], by go_grown⟩
            go_enter Try.func74, Try.ntmps74
            go_wp2_with fail
            refine (HSG.out _).mono ?_
            rintro e wn ⟨rfl, hbn⟩
            replace HX := Lib.hid (kept3 HX.out hbn)
            clear hbn
            obtain ⟨c0, c1, c2, cz⟩ := HX.out
            go_wp2_with fail
            refine (HIG.out _).mono ?_
            rintro e wn ⟨rfl, hbn⟩
            replace HX := Lib.hid (kept3 HX.out hbn)
            clear hbn c0 c1 c2 cz
            obtain ⟨c0, c1, c2, cz⟩ := HX.out
            go_wp2_with fail
            go_ret
            exact ⟨by rw [HR.out]; rfl, cz⟩
      | false =>
        have hE2 := nonempty_of hE
        rw [hE] at hR
        cases hX : t.toList == [104, 116, 116, 112, 58, 47, 47, 119, 119, 119, 46, 119, 51, 46, 111, 114, 103, 47, 49, 57, 57, 57, 47, 48, 50, 47, 50, 50, 45, 114, 100, 102, 45, 115, 121, 110, 116, 97, 120, 45, 110, 115, 35, 108, 97, 110, 103, 83, 116, 114, 105, 110, 103] with
        | false =>
          have HR : Hid (R = false) := Lib.hid (by rw [hR, hX]; rfl)
          clear hR
          have HX : Hid ((w.alloc (.cells #[.string s, .string t, .string g] 84)).cell? ⟨w.heap.size, 0, none⟩ = some (.string s) ∧ (w.alloc (.cells #[.string s, .string t, .string g] 84)).cell? ⟨w.heap.size, 1, none⟩ = some (.string t) ∧ (w.alloc (.cells #[.string s, .string t, .string g] 84)).cell? ⟨w.heap.size, 2, none⟩ = some (.string g) ∧ Below w.heap.size w (w.alloc (.cells #[.string s, .string t, .string g] 84))) := Lib.hid ⟨by simp [go_sem], by simp [go_sem], by simp [go_sem], by go_grown⟩
          go_enter Try.func74, Try.ntmps74
          go_wp2_with fail
          refine (HSG.out _).mono ?_
          rintro e wn ⟨rfl, hbn⟩
          replace HX := Lib.hid (kept3 HX.out hbn)
          clear hbn
          obtain ⟨c0, c1, c2, cz⟩ := HX.out
          go_wp2_with fail
          go_ret
          exact ⟨by rw [HR.out]; rfl, cz⟩
        | true =>
          cases I with
          | false =>
            have HR : Hid (R = false) := Lib.hid (by rw [hR, hX]; rfl)
            clear hR
            have HX : Hid ((w.alloc (.cells #[.string s, .string t, .string g] 84)).cell? ⟨w.heap.size, 0, none⟩ = some (.string s) ∧ (w.alloc (.cells #[.string s, .string t, .string g] 84)).cell? ⟨w.heap.size, 1, none⟩ = some (.string t) ∧ (w.alloc (.cells #[.string s, .string t, .string g] 84)).cell? ⟨w.heap.size, 2, none⟩ = some (.string g) ∧ Below w.heap.size w (w.alloc (.cells #[.string s, .string t, .string g] 84))) := Lib.hid ⟨by simp [go_sem], by simp [go_sem], by simp [go_sem], by go_grown⟩
            go_enter Try.func74, Try.ntmps74
            go_wp2_with fail
            refine (HSG.out _).mono ?_
            rintro e wn ⟨rfl, hbn⟩
            replace HX := Lib.hid (kept3 HX.out hbn)
            clear hbn
            obtain ⟨c0, c1, c2, cz⟩ := HX.out
            go_wp2_with fail
            refine (HIG.out _).mono ?_
            rintro e wn ⟨rfl, hbn⟩
            replace HX := Lib.hid (kept3 HX.out hbn)
            clear hbn c0 c1 c2 cz
            obtain ⟨c0, c1, c2, cz⟩ := HX.out
            go_wp2_with fail
            go_ret
            exact ⟨by rw [HR.out]; rfl, cz⟩
          | true =>
            have HR : Hid (R = La) := Lib.hid (by rw [hR, hX]; rfl)
            clear hR
            have HX : Hid ((w.alloc (.cells #[.string s, .string t, .string g] 84)).cell? ⟨w.heap.size, 0, none⟩ = some (.string s) ∧ (w.alloc (.cells #[.string s, .string t, .string g] 84)).cell? ⟨w.heap.size, 1, none⟩ = some (.string t) ∧ (w.alloc (.cells #[.string s, .string t, .string g] 84)).cell? ⟨w.heap.size, 2, none⟩ = some (.string g) ∧ Below w.heap.size w (w.alloc (.cells #[.string s, .string t, .string g] 84))) := Lib.hid ⟨by simp [go_sem], by simp [go_sem], by simp [go_sem], by go_grown⟩
            go_enter Try.func74, Try.ntmps74
            go_wp2_with fail
            refine (HSG.out _).mono ?_
            rintro e wn ⟨rfl, hbn⟩
            replace HX := Lib.hid (kept3 HX.out hbn)
            clear hbn
            obtain ⟨c0, c1, c2, cz⟩ := HX.out
            go_wp2_with fail
            refine (HIG.out _).mono ?_
            rintro e wn ⟨rfl, hbn⟩
            replace HX := Lib.hid (kept3 HX.out hbn)
            clear hbn c0 c1 c2 cz
            obtain ⟨c0, c1, c2, cz⟩ := HX.out
            go_wp2_with fail
            refine (HLG.out _ (HMV.out _ cz)).mono ?_
            rintro e wn ⟨rfl, hbn⟩
            replace HX := Lib.hid (kept3 HX.out hbn)
            clear hbn c0 c1 c2 cz
            obtain ⟨c0, c1, c2, cz⟩ := HX.out
            go_wp2_with fail
            go_ret
            exact ⟨by rw [HR.out]; rfl, cz⟩
/-- is it a term? -/
def goodV (X : Tm) (r1 : List UInt8) (l1 : List Int) (l2 : List Int) (r2 : List UInt8) : Bool :=
  match X with
  | .blank s => labV s.data.toList
  | .iri s => iriV s l1 r1
  | .lit s t g => litG s r1 t l2 r2 g
  | _ => false
def Small (X : Tm) : Prop := (text0 X).size ≤ 1000000 ∧ (text1 X).size ≤ 1000000 ∧ (text2 X).size ≤ 1000000
set_option maxHeartbeats 1600000 in
theorem tgood_any (X : Tm) (l1 : List Int) (r1 : List UInt8) (l2 : List Int) (r2 : List UInt8) (w0 : World) (h1 : Read (text0 X).data.toList l1 r1) (h2 : Read (text1 X).data.toList l2 r2) (hz : Small X) (hm : MaxV w0) :
    Calls Try.prog 36 #[tmV X] w0 fun e w' => e = .returned (.bool (goodV X r1 l1 l2 r2)) ∧ Below w0.heap.size w0 w' := by
  cases X with
  | blank s =>
    have KX := Lib.hid (kind_any (.blank s))
    obtain ⟨V, hV⟩ : ∃ V, V = labV s.data.toList := ⟨_, rfl⟩
    have HG : Hid (∀ w, Below w0.heap.size w0 w → Calls Try.prog 103 #[.agg #[.string s]] w fun e w' => e = .returned (.bool V) ∧ Below w.heap.size w w') := Lib.hid (fun w hb => by rw [hV]; exact blank_any s w hz.1)
    show Calls Try.prog 36 #[.iface 93 (.agg #[.string s])] w0 fun e w' => e = .returned (.bool (labV s.data.toList)) ∧ Below w0.heap.size w0 w'
    rw [← hV]
    clear hV h1 h2 hz hm
    go_enter Try.func36, Try.ntmps36
    go_wp2_with fail
    refine (KX.out _).mono ?_
    rintro e w' ⟨rfl, rfl⟩
    rw [show kindV (.blank s) = 0 from rfl]
    go_wp2_with fail
    refine (HG.out _ (Below.refl _ _)).mono ?_
    rintro e w1 ⟨rfl, hb1⟩
    go_wp2_with fail
    go_ret
    exact ⟨rfl, hb1⟩
  | iri s =>
    have KX := Lib.hid (kind_any (.iri s))
    obtain ⟨V, hV⟩ : ∃ V, V = iriV s l1 r1 := ⟨_, rfl⟩
    have HG : Hid (∀ w, Below w0.heap.size w0 w → Calls Try.prog 76 #[.agg #[.string s]] w fun e w' => e = .returned (.bool V) ∧ Below w.heap.size w w') := Lib.hid (fun w hb => by rw [hV]; exact iri_any s l1 r1 w h1 hz.1)
    show Calls Try.prog 36 #[.iface 95 (.agg #[.string s])] w0 fun e w' => e = .returned (.bool (iriV s l1 r1)) ∧ Below w0.heap.size w0 w'
    rw [← hV]
    clear hV h1 h2 hz hm
    go_enter Try.func36, Try.ntmps36
    go_wp2_with fail
    refine (KX.out _).mono ?_
    rintro e w' ⟨rfl, rfl⟩
    rw [show kindV (.iri s) = 1 from rfl]
    go_wp2_with fail
    refine (HG.out _ (Below.refl _ _)).mono ?_
    rintro e w1 ⟨rfl, hb1⟩
    go_wp2_with fail
    go_ret
    exact ⟨rfl, hb1⟩
  | lit s t g =>
    have KX := Lib.hid (kind_any (.lit s t g))
    obtain ⟨V, hV⟩ : ∃ V, V = litG s r1 t l2 r2 g := ⟨_, rfl⟩
    have HG : Hid (∀ w, Below w0.heap.size w0 w → Calls Try.prog 74 #[.agg #[.string s, .string t, .string g]] w fun e w' => e = .returned (.bool V) ∧ Below w.heap.size w w') := Lib.hid (fun w hb => by rw [hV]; exact litgood_any s t g l1 r1 l2 r2 w h1 h2 hz.1 hz.2.1 hz.2.2 (hm.below hb))
    show Calls Try.prog 36 #[.iface 84 (.agg #[.string s, .string t, .string g])] w0 fun e w' => e = .returned (.bool (litG s r1 t l2 r2 g)) ∧ Below w0.heap.size w0 w'
    rw [← hV]
    clear hV h1 h2 hz hm
    go_enter Try.func36, Try.ntmps36
    go_wp2_with fail
    refine (KX.out _).mono ?_
    rintro e w' ⟨rfl, rfl⟩
    rw [show kindV (.lit s t g) = 2 from rfl]
    go_wp2_with fail
    refine (HG.out _ (Below.refl _ _)).mono ?_
    rintro e w1 ⟨rfl, hb1⟩
    go_wp2_with fail
    go_ret
    exact ⟨rfl, hb1⟩
  | odd n =>
    have KX := Lib.hid (kind_any (.odd n))
    show Calls Try.prog 36 #[.iface 97 (.agg #[.int .i64 n])] w0 fun e w' => e = .returned (.bool false) ∧ Below w0.heap.size w0 w'
    clear h1 h2 hz hm
    go_enter Try.func36, Try.ntmps36
    go_wp2_with fail
    refine (KX.out _).mono ?_
    rintro e w' ⟨rfl, rfl⟩
    rw [show kindV (.odd n) = 3 from rfl]
    go_wp2_with fail
    go_ret
    exact ⟨rfl, Below.refl _ _⟩
  | none  =>
    have KX := Lib.hid (kind_any (.none ))
    show Calls Try.prog 36 #[.nilIface] w0 fun e w' => e = .returned (.bool false) ∧ Below w0.heap.size w0 w'
    clear h1 h2 hz hm
    go_enter Try.func36, Try.ntmps36
    go_wp2_with fail
    refine (KX.out _).mono ?_
    rintro e w' ⟨rfl, rfl⟩
    rw [show kindV (.none ) = 3 from rfl]
    go_wp2_with fail
    go_ret
    exact ⟨rfl, Below.refl _ _⟩
set_option maxHeartbeats 6400000 in
theorem rlit_any (s t g : ByteArray) (ls : List Int) (rs : List UInt8) (lt : List Int) (rt : List UInt8) (w : World) (h : Read s.data.toList ls rs) (ht : Read t.data.toList lt rt) (hs : s.size ≤ 1000000) (hts : t.size ≤ 1000000) (hgs : g.size ≤ 1000000) :
    Calls Try.prog 35 #[.agg #[.int .i64 2, .string s, .string t, .string g]] w fun e w' => e = .returned (.bool (litG s rs t lt rt g)) ∧ Below w.heap.size w w' := by
  obtain ⟨R, hR⟩ : ∃ R, R = litG s rs t lt rt g := ⟨_, rfl⟩
  rw [← hR]
  have HSG := Lib.hid (fun w => signs_any s ls rs w h (by omega))
  unfold SignsRes at HSG
  have HIG := Lib.hid (fun w => riri_any t lt rt w ht hts)
  have HLG := Lib.hid (fun w => (rlang_any g w hgs).mono (fun e w' h => (⟨h.1, h.2 ▸ Below.refl _ _⟩ : e = .returned (.bool (langV g.data.toList)) ∧ Below w.heap.size w w')))
  unfold litG at hR
  unfold xLangL at hR
  generalize iriV t lt rt = I at *
  generalize langV g.data.toList = La at *
  generalize rs.isEmpty = G at *
  cases G with
  | false =>
    have HR : Hid (R = false) := Lib.hid (by rw [hR]; simp)
    clear hR h ht
    have HX : Hid ((w.alloc (.cells #[.int .i64 2, .string s, .string t, .string g] 31)).cell? ⟨w.heap.size, 1, none⟩ = some (.string s) ∧ (w.alloc (.cells #[.int .i64 2, .string s, .string t, .string g] 31)).cell? ⟨w.heap.size, 2, none⟩ = some (.string t) ∧ (w.alloc (.cells #[.int .i64 2, .string s, .string t, .string g] 31)).cell? ⟨w.heap.size, 3, none⟩ = some (.string g) ∧ Below w.heap.size w (w.alloc (.cells #[.int .i64 2, .string s, .string t, .string g] 31))) := Lib.hid ⟨by simp [go_sem], by simp [go_sem], by simp [go_sem], by go_grown⟩
    go_enter Try.func35, Try.ntmps35
    go_wp2_with fail
    refine (HSG.out _).mono ?_
    rintro e wn ⟨sa, scap, rfl, hown, hbn⟩
    replace HX := Lib.hid (kept3 HX.out hbn)
    clear hbn hown
    obtain ⟨c0, c1, c2, cz⟩ := HX.out
    go_wp2_with fail
    go_ret
    exact ⟨by rw [HR.out]; rfl, cz⟩
  | true =>
    rw [Bool.true_and] at hR
    by_cases hbig : 4096 < s.size
    · have HR : Hid (R = false) := Lib.hid (by rw [hR, decide_eq_false (by omega)]; rfl)
      have g1 : (4096 : Int) < s.size := by omega
      clear hbig hs hR h ht
      have HX : Hid ((w.alloc (.cells #[.int .i64 2, .string s, .string t, .string g] 31)).cell? ⟨w.heap.size, 1, none⟩ = some (.string s) ∧ (w.alloc (.cells #[.int .i64 2, .string s, .string t, .string g] 31)).cell? ⟨w.heap.size, 2, none⟩ = some (.string t) ∧ (w.alloc (.cells #[.int .i64 2, .string s, .string t, .string g] 31)).cell? ⟨w.heap.size, 3, none⟩ = some (.string g) ∧ Below w.heap.size w (w.alloc (.cells #[.int .i64 2, .string s, .string t, .string g] 31))) := Lib.hid ⟨by simp [go_sem], by simp [go_sem], by simp [go_sem], by go_grown⟩
      go_enter Try.func35, Try.ntmps35
      go_wp2_with fail
      refine (HSG.out _).mono ?_
      rintro e wn ⟨sa, scap, rfl, hown, hbn⟩
      replace HX := Lib.hid (kept3 HX.out hbn)
      clear hbn hown
      obtain ⟨c0, c1, c2, cz⟩ := HX.out
      go_wp2_with fail
      go_ret
      exact ⟨by rw [HR.out]; rfl, cz⟩
    · have g1 : ¬ (4096 : Int) < s.size := by omega
      rw [decide_eq_true (show s.size ≤ 4096 by omega), Bool.true_and] at hR
      clear hbig hs h ht
      cases I with
      | false =>
        have HR : Hid (R = false) := Lib.hid (by rw [hR]; simp)
        clear hR
        have HX : Hid ((w.alloc (.cells #[.int .i64 2, .string s, .string t, .string g] 31)).cell? ⟨w.heap.size, 1, none⟩ = some (.string s) ∧ (w.alloc (.cells #[.int .i64 2, .string s, .string t, .string g] 31)).cell? ⟨w.heap.size, 2, none⟩ = some (.string t) ∧ (w.alloc (.cells #[.int .i64 2, .string s, .string t, .string g] 31)).cell? ⟨w.heap.size, 3, none⟩ = some (.string g) ∧ Below w.heap.size w (w.alloc (.cells #[.int .i64 2, .string s, .string t, .string g] 31))) := Lib.hid ⟨by simp [go_sem], by simp [go_sem], by simp [go_sem], by go_grown⟩
        go_enter Try.func35, Try.ntmps35
        go_wp2_with fail
        refine (HSG.out _).mono ?_
        rintro e wn ⟨sa, scap, rfl, hown, hbn⟩
        replace HX := Lib.hid (kept3 HX.out hbn)
        clear hbn hown
        obtain ⟨c0, c1, c2, cz⟩ := HX.out
        go_wp2_with fail
        refine (HIG.out _).mono ?_
        rintro e wn ⟨rfl, hbn⟩
        replace HX := Lib.hid (kept3 HX.out hbn)
        clear hbn c0 c1 c2 cz
        obtain ⟨c0, c1, c2, cz⟩ := HX.out
        go_wp2_with fail
        go_ret
        exact ⟨by rw [HR.out]; rfl, cz⟩
      | true =>
        rw [Bool.true_and] at hR
        cases hE : g.toList.isEmpty with
        | true =>
          obtain rfl := empty_of hE
          rw [hE] at hR
          clear hE
          cases hX : t.toList == [104, 116, 116, 112, 58, 47, 47, 119, 119, 119, 46, 119, 51, 46, 111, 114, 103, 47, 49, 57, 57, 57, 47, 48, 50, 47, 50, 50, 45, 114, 100, 102, 45, 115, 121, 110, 116, 97, 120, 45, 110, 115, 35, 108, 97, 110, 103, 83, 116, 114, 105, 110, 103] with
          | true =>
            have HR : Hid (R = false) := Lib.hid (by rw [hR, hX]; rfl)
            clear hR
            have HX : Hid ((w.alloc (.cells #[.int .i64 2, .string s, .string t, .string ⟨#[]⟩] 31)).cell? ⟨w.heap.size, 1, none⟩ = some (.string s) ∧ (w.alloc (.cells #[.int .i64 2, .string s, .string t, .string ⟨#[]⟩] 31)).cell? ⟨w.heap.size, 2, none⟩ = some (.string t) ∧ (w.alloc (.cells #[.int .i64 2, .string s, .string t, .string ⟨#[]⟩] 31)).cell? ⟨w.heap.size, 3, none⟩ = some (.string ⟨#[]⟩) ∧ Below w.heap.size w (w.alloc (.cells #[.int .i64 2, .string s, .string t, .string ⟨#[]⟩] 31))) := Lib.hid ⟨by simp [go_sem], by simp [go_sem], by simp [go_sem], by go_grown⟩
            go_enter Try.func35, Try.ntmps35
            go_wp2_with fail
            refine (HSG.out _).mono ?_
            rintro e wn ⟨sa, scap, rfl, hown, hbn⟩
            replace HX := Lib.hid (kept3 HX.out hbn)
            clear hbn hown
            obtain ⟨c0, c1, c2, cz⟩ := HX.out
            go_wp2_with fail
            refine (HIG.out _).mono ?_
            rintro e wn ⟨rfl, hbn⟩
            replace HX := Lib.hid (kept3 HX.out hbn)
            clear hbn c0 c1 c2 cz
            obtain ⟨c0, c1, c2, cz⟩ := HX.out
            go_wp2_with fail
            go_ret
            exact ⟨by rw [HR.out]; rfl, cz⟩
          | false =>
            have HR : Hid (R = true) := Lib.hid (by rw [hR, hX]; rfl)
            clear hR
            have HX : Hid ((w.alloc (.cells #[.int .i64 2, .string s, .string t, .string ⟨#[]⟩] 31)).cell? ⟨w.heap.size, 1, none⟩ = some (.string s) ∧ (w.alloc (.cells #[.int .i64 2, .string s, .string t, .string ⟨#[]⟩] 31)).cell? ⟨w.heap.size, 2, none⟩ = some (.string t) ∧ (w.alloc (.cells #[.int .i64 2, .string s, .string t, .string ⟨#[]⟩] 31)).cell? ⟨w.heap.size, 3, none⟩ = some (.string ⟨#[]⟩) ∧ Below w.heap.size w (w.alloc (.cells #[.int .i64 2, .string s, .string t, .string ⟨#[]⟩] 31))) := Lib.hid ⟨by simp [go_sem], by simp [go_sem], by simp [go_sem], by go_grown⟩
            go_enter Try.func35, Try.ntmps35
            go_wp2_with fail
            refine (HSG.out _).mono ?_
            rintro e wn ⟨sa, scap, rfl, hown, hbn⟩
            replace HX := Lib.hid (kept3 HX.out hbn)
            clear hbn hown
            obtain ⟨c0, c1, c2, cz⟩ := HX.out
            go_wp2_with fail
            refine (HIG.out _).mono ?_
            rintro e wn ⟨rfl, hbn⟩
            replace HX := Lib.hid (kept3 HX.out hbn)
            clear hbn c0 c1 c2 cz
            obtain ⟨c0, c1, c2, cz⟩ := HX.out
            go_wp2_with fail
            go_ret
            exact ⟨by rw [HR.out]; rfl, cz⟩
        | false =>
          have hE2 := nonempty_of hE
          rw [hE] at hR
          cases hX : t.toList == [104, 116, 116, 112, 58, 47, 47, 119, 119, 119, 46, 119, 51, 46, 111, 114, 103, 47, 49, 57, 57, 57, 47, 48, 50, 47, 50, 50, 45, 114, 100, 102, 45, 115, 121, 110, 116, 97, 120, 45, 110, 115, 35, 108, 97, 110, 103, 83, 116, 114, 105, 110, 103] with
          | false =>
            have HR : Hid (R = false) := Lib.hid (by rw [hR, hX]; rfl)
            clear hR
            have HX : Hid ((w.alloc (.cells #[.int .i64 2, .string s, .string t, .string g] 31)).cell? ⟨w.heap.size, 1, none⟩ = some (.string s) ∧ (w.alloc (.cells #[.int .i64 2, .string s, .string t, .string g] 31)).cell? ⟨w.heap.size, 2, none⟩ = some (.string t) ∧ (w.alloc (.cells #[.int .i64 2, .string s, .string t, .string g] 31)).cell? ⟨w.heap.size, 3, none⟩ = some (.string g) ∧ Below w.heap.size w (w.alloc (.cells #[.int .i64 2, .string s, .string t, .string g] 31))) := Lib.hid ⟨by simp [go_sem], by simp [go_sem], by simp [go_sem], by go_grown⟩
            go_enter Try.func35, Try.ntmps35
            go_wp2_with fail
            refine (HSG.out _).mono ?_
            rintro e wn ⟨sa, scap, rfl, hown, hbn⟩
            replace HX := Lib.hid (kept3 HX.out hbn)
            clear hbn hown
            obtain ⟨c0, c1, c2, cz⟩ := HX.out
            go_wp2_with fail
            refine (HIG.out _).mono ?_
            rintro e wn ⟨rfl, hbn⟩
            replace HX := Lib.hid (kept3 HX.out hbn)
            clear hbn c0 c1 c2 cz
            obtain ⟨c0, c1, c2, cz⟩ := HX.out
            go_wp2_with fail
            go_ret
            exact ⟨by rw [HR.out]; rfl, cz⟩
          | true =>
            have HR : Hid (R = La) := Lib.hid (by rw [hR, hX]; rfl)
            clear hR
            have HX : Hid ((w.alloc (.cells #[.int .i64 2, .string s, .string t, .string g] 31)).cell? ⟨w.heap.size, 1, none⟩ = some (.string s) ∧ (w.alloc (.cells #[.int .i64 2, .string s, .string t, .string g] 31)).cell? ⟨w.heap.size, 2, none⟩ = some (.string t) ∧ (w.alloc (.cells #[.int .i64 2, .string s, .string t, .string g] 31)).cell? ⟨w.heap.size, 3, none⟩ = some (.string g) ∧ Below w.heap.size w (w.alloc (.cells #[.int .i64 2, .string s, .string t, .string g] 31))) := Lib.hid ⟨by simp [go_sem], by simp [go_sem], by simp [go_sem], by go_grown⟩
            go_enter Try.func35, Try.ntmps35
            go_wp2_with fail
            refine (HSG.out _).mono ?_
            rintro e wn ⟨sa, scap, rfl, hown, hbn⟩
            replace HX := Lib.hid (kept3 HX.out hbn)
            clear hbn hown
            obtain ⟨c0, c1, c2, cz⟩ := HX.out
            go_wp2_with fail
            refine (HIG.out _).mono ?_
            rintro e wn ⟨rfl, hbn⟩
            replace HX := Lib.hid (kept3 HX.out hbn)
            clear hbn c0 c1 c2 cz
            obtain ⟨c0, c1, c2, cz⟩ := HX.out
            go_wp2_with fail
            refine (HLG.out _).mono ?_
            rintro e wn ⟨rfl, hbn⟩
            replace HX := Lib.hid (kept3 HX.out hbn)
            clear hbn c0 c1 c2 cz
            obtain ⟨c0, c1, c2, cz⟩ := HX.out
            go_wp2_with fail
            go_ret
            exact ⟨by rw [HR.out]; rfl, cz⟩
theorem rgood_any (X : Tm) (l1 : List Int) (r1 : List UInt8) (l2 : List Int) (r2 : List UInt8) (w : World) (h1 : Read (text0 X).data.toList l1 r1) (h2 : Read (text1 X).data.toList l2 r2) (hz : Small X) :
    Calls Try.prog 35 #[.agg #[.int .i64 (kindV X), .string (text0 X), .string (text1 X), .string (text2 X)]] w fun e w' => e = .returned (.bool (goodV X r1 l1 l2 r2)) ∧ Below w.heap.size w w' := by
  cases X with
  | lit s t g => exact rlit_any s t g l1 r1 l2 r2 w h1 h2 hz.1 hz.2.1 hz.2.2
  | blank s =>
    have HL := Lib.hid (fun w => (rlabel_any s w hz.1).mono (fun e w' h => (⟨h.1, h.2 ▸ Below.refl _ _⟩ : e = .returned (.bool (labV s.data.toList)) ∧ Below w.heap.size w w')))
    show Calls Try.prog 35 #[.agg #[.int .i64 0, .string s, .string ⟨#[]⟩, .string ⟨#[]⟩]] w fun e w' => e = .returned (.bool (labV s.data.toList)) ∧ Below w.heap.size w w'
    generalize labV s.data.toList = V at *
    clear h1 h2 hz
    go_enter Try.func35, Try.ntmps35
    go_wp2_with fail
    refine (HL.out _).mono ?_
    rintro e w1 ⟨rfl, hb1⟩
    have HB : Hid (Below w.heap.size w w1) := Lib.hid (((Below.refl w.heap.size w).alloc (Nat.le_refl _) _).trans (hb1.mono (by simp)))
    clear hb1
    go_wp2_with fail
    go_ret
    exact ⟨rfl, HB.out⟩
  | iri s =>
    have HL := Lib.hid (fun w => riri_any s l1 r1 w h1 hz.1)
    show Calls Try.prog 35 #[.agg #[.int .i64 1, .string s, .string ⟨#[]⟩, .string ⟨#[]⟩]] w fun e w' => e = .returned (.bool (iriV s l1 r1)) ∧ Below w.heap.size w w'
    generalize iriV s l1 r1 = V at *
    clear h1 h2 hz
    go_enter Try.func35, Try.ntmps35
    go_wp2_with fail
    refine (HL.out _).mono ?_
    rintro e w1 ⟨rfl, hb1⟩
    have HB : Hid (Below w.heap.size w w1) := Lib.hid (((Below.refl w.heap.size w).alloc (Nat.le_refl _) _).trans (hb1.mono (by simp)))
    clear hb1
    go_wp2_with fail
    go_ret
    exact ⟨rfl, HB.out⟩
  | odd n =>
    show Calls Try.prog 35 #[.agg #[.int .i64 3, .string ⟨#[]⟩, .string ⟨#[]⟩, .string ⟨#[]⟩]] w fun e w' => e = .returned (.bool false) ∧ Below w.heap.size w w'
    clear h1 h2 hz
    go_enter Try.func35, Try.ntmps35
    go_wp2_with fail
    go_ret
    exact ⟨rfl, by go_grown⟩
  | none  =>
    show Calls Try.prog 35 #[.agg #[.int .i64 3, .string ⟨#[]⟩, .string ⟨#[]⟩, .string ⟨#[]⟩]] w fun e w' => e = .returned (.bool false) ∧ Below w.heap.size w w'
    clear h1 h2 hz
    go_enter Try.func35, Try.ntmps35
    go_wp2_with fail
    go_ret
    exact ⟨rfl, by go_grown⟩
end Go.Proofs.Ytghimladdioajaa
