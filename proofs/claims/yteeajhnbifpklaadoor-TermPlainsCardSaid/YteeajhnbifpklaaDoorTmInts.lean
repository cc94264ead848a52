/- The law TermInts: its walk. Every two integers and every truth. -/
import Derived.Test.YteeajhnbifpklaaDoorTmEff
import Derived.Lib.ItoaLen
namespace Go.Proofs.YteeajhnbifpklaaDoor
open Go Go.RowKit
set_option linter.unusedVariables false
theorem nP_of (l : List UInt8) (n : Int) (h : isNum l = true ∧ numT l = n) (n0 : -9223372036854775808 ≤ n) (n1 : n ≤ 9223372036854775807) : nP l = n ∧ eP l = 0 := by
  have hf : fits n = true := (fits_iff n).2 ⟨n0, n1⟩
  unfold nP eP
  rw [h.1, h.2, hf]
  exact ⟨rfl, rfl⟩
def Fit (n : Int) : Prop := -9223372036854775808 ≤ n ∧ n ≤ 9223372036854775807
theorem itoa_parse {n : Int} (h : Fit n) : nP (Lib.itoa n) = n ∧ eP (Lib.itoa n) = 0 := nP_of _ n (itoa_num n) h.1 h.2
theorem xI_eq : ⟨#[104, 116, 116, 112, 58, 47, 47, 119, 119, 119, 46, 119, 51, 46, 111, 114, 103, 47, 50, 48, 48, 49, 47, 88, 77, 76, 83, 99, 104, 101, 109, 97, 35, 105, 110, 116, 101, 103, 101, 114]⟩ = xInt := rfl
theorem xB_eq : ⟨#[104, 116, 116, 112, 58, 47, 47, 119, 119, 119, 46, 119, 51, 46, 111, 114, 103, 47, 50, 48, 48, 49, 47, 88, 77, 76, 83, 99, 104, 101, 109, 97, 35, 98, 111, 111, 108, 101, 97, 110]⟩ = xBool := rfl
theorem int_same {a b : Int} (ha : Fit a) (hb : Fit b) : sameS (intB a) (intB b) = (a == b) := by
  rw [sameS_data]
  show (Lib.itoa a == Lib.itoa b) = _
  by_cases h : a = b
  · subst h; simp
  · rw [beq_eq_false_iff_ne.mpr h, beq_eq_false_iff_ne]
    intro hh
    have := (itoa_parse ha).1
    rw [hh, (itoa_parse hb).1] at this
    exact h this.symm
theorem self_same (x : ByteArray) : sameS x x = true := by unfold sameS; simp
theorem facts_x : isInt xInt = true ∧ isBool xInt = false ∧ isInt xBool = false ∧ isBool xBool = true ∧ isStr xInt = false ∧ isLang xInt = false ∧ isStr xBool = false ∧ isLang xBool = false ∧ sameS xInt xBool = false := by
  simp only [isInt_data, isBool_data, isStr_data, isLang_data, sameS_data]
  decide +kernel
theorem known_x : knownV xInt = true ∧ knownV xBool = true := by
  unfold knownV
  rw [facts_x.1, facts_x.2.2.2.1]; simp
abbrev litI (a : Int) : Tm := .lit (intB a) xInt ⟨#[]⟩
abbrev litB (x : Bool) : Tm := .lit (boolB x) xBool ⟨#[]⟩
theorem ai_int {a : Int} (ha : Fit a) : aiE (litI a) = 0 ∧ aiN (litI a) = a := by
  constructor
  · show (if isInt xInt then (if eP (Lib.itoa a) = 1 then 3 else eP (Lib.itoa a)) else 10) = 0
    rw [facts_x.1, (itoa_parse ha).2]; rfl
  · show (if isInt xInt then nP (Lib.itoa a) else 0) = a
    rw [facts_x.1, (itoa_parse ha).1]; rfl
theorem true_bool (x : Bool) : isTrue (boolB x) = x ∧ (isTrue (boolB x) || isFalse (boolB x)) = true := by
  unfold isTrue isFalse
  simp only [Lib.toList_data]
  cases x <;> decide +kernel
theorem ab_bool (x : Bool) : abE (litB x) = 0 ∧ abV (litB x) = x := by
  constructor
  · show (if isBool xBool then (if isTrue (boolB x) then 0 else if isFalse (boolB x) then 0 else 3) else 10) = (0 : Int)
    rw [facts_x.2.2.2.1, if_pos rfl]
    have := (true_bool x).2
    cases h : isTrue (boolB x)
    · rw [h] at this; simp at this; rw [this]; rfl
    · rfl
  · show (isBool xBool && isTrue (boolB x)) = x
    rw [facts_x.2.2.2.1, (true_bool x).1]; rfl
theorem eqT_int {a b : Int} (ha : Fit a) (hb : Fit b) : eqT (litI a) (litI b) = (a == b) := by
  show (sameS _ _ && (sameS _ _ && sameS _ _)) = _
  rw [int_same ha hb, self_same, self_same]; simp
theorem eqT_bool (x y : Bool) : eqT (litB x) (litB y) = (x == y) := by
  show (sameS _ _ && (sameS _ _ && sameS _ _)) = _
  rw [self_same, self_same, sameS_data]
  cases x <;> cases y <;> decide +kernel
theorem equal_int {a b : Int} (ha : Fit a) (hb : Fit b) : equalV (litI a) (litI b) = truthV (a == b) := by
  unfold equalV
  rw [eqT_int ha hb]
  cases h : a == b with
  | true => rfl
  | false =>
    show (if (true && true) = true then (if (isInt xInt && isInt xInt) = true then bothI (litI a) (litI b) else _) else 0) = _
    rw [facts_x.1]
    show bothI (litI a) (litI b) = _
    unfold bothI
    rw [(ai_int ha).1, (ai_int hb).1, (ai_int ha).2, (ai_int hb).2, h]; rfl
theorem equal_bool (x y : Bool) : equalV (litB x) (litB y) = truthV (x == y) := by
  unfold equalV
  rw [eqT_bool]
  cases h : x == y with
  | true => rfl
  | false =>
    show (if (true && true) = true then (if (isInt xBool && isInt xBool) = true then _ else if (isBool xBool && isBool xBool) = true then bothB (litB x) (litB y) else _) else 0) = _
    rw [facts_x.2.2.1, facts_x.2.2.2.1]
    show bothB (litB x) (litB y) = _
    unfold bothB
    rw [(ab_bool x).1, (ab_bool y).1, (ab_bool x).2, (ab_bool y).2, h]; rfl
theorem equal_mixed (a : Int) (x : Bool) : equalV (litI a) (litB x) = 0 := by
  unfold equalV
  have : eqT (litI a) (litB x) = false := by
    show (sameS _ _ && (sameS xInt xBool && sameS _ _)) = _
    rw [facts_x.2.2.2.2.2.2.2.2]; simp
  rw [this]
  show (if (true && true) = true then (if (isInt xInt && isInt xBool) = true then _ else if (isBool xInt && isBool xBool) = true then _ else if (!knownV xInt || !knownV xBool) = true then 2 else 0) else 0) = (0 : Int)
  rw [facts_x.2.2.1, facts_x.2.1, known_x.1, known_x.2]; simp
theorem eff_int {a : Int} (ha : Fit a) : effV (litI a) = truthV (a != 0) := by
  show (if isStr xInt || isLang xInt then _ else if isInt xInt then (if aiE (litI a) = 0 then truthV (aiN (litI a) != 0) else 2) else _) = _
  rw [facts_x.2.2.2.2.1, facts_x.2.2.2.2.2.1, facts_x.1, (ai_int ha).1, (ai_int ha).2]; rfl
theorem eff_bool (x : Bool) : effV (litB x) = truthV x := by
  show (if isStr xBool || isLang xBool then _ else if isInt xBool then _ else (if abE (litB x) = 0 then truthV (abV (litB x)) else 2)) = _
  rw [facts_x.2.2.2.2.2.2.1, facts_x.2.2.2.2.2.2.2.1, facts_x.2.2.1, (ab_bool x).1, (ab_bool x).2]; rfl
theorem sized_int {a : Int} (ha : Fit a) : Sized (litI a) := by
  have h := Lib.itoa_length_le a ha.1 ha.2
  have e : (intB a).size = (Lib.itoa a).length := by rw [Lib.size_eq]; rfl
  exact ⟨by rw [e]; omega, by decide +kernel, by decide +kernel⟩
theorem sized_bool (x : Bool) : Sized (litB x) := by
  refine ⟨?_, by decide +kernel, by decide +kernel⟩
  cases x <;> decide +kernel
def Box4 (a b : Int) (x : Bool) (B : Nat) (w w' : World) : Prop := w'.cell? ⟨B, 0, none⟩ = some (.string (intB a)) ∧ w'.cell? ⟨B, 1, none⟩ = some (.string ⟨#[104, 116, 116, 112, 58, 47, 47, 119, 119, 119, 46, 119, 51, 46, 111, 114, 103, 47, 50, 48, 48, 49, 47, 88, 77, 76, 83, 99, 104, 101, 109, 97, 35, 105, 110, 116, 101, 103, 101, 114]⟩) ∧ w'.cell? ⟨B, 2, none⟩ = some (.string ⟨#[]⟩) ∧ w'.cell? ⟨B + 1, 0, none⟩ = some (.string (intB b)) ∧ w'.cell? ⟨B + 1, 1, none⟩ = some (.string ⟨#[104, 116, 116, 112, 58, 47, 47, 119, 119, 119, 46, 119, 51, 46, 111, 114, 103, 47, 50, 48, 48, 49, 47, 88, 77, 76, 83, 99, 104, 101, 109, 97, 35, 105, 110, 116, 101, 103, 101, 114]⟩) ∧ w'.cell? ⟨B + 1, 2, none⟩ = some (.string ⟨#[]⟩) ∧ w'.cell? ⟨B + 2, 0, none⟩ = some (.string (boolB x)) ∧ w'.cell? ⟨B + 2, 1, none⟩ = some (.string ⟨#[104, 116, 116, 112, 58, 47, 47, 119, 119, 119, 46, 119, 51, 46, 111, 114, 103, 47, 50, 48, 48, 49, 47, 88, 77, 76, 83, 99, 104, 101, 109, 97, 35, 98, 111, 111, 108, 101, 97, 110]⟩) ∧ w'.cell? ⟨B + 2, 2, none⟩ = some (.string ⟨#[]⟩) ∧ w'.cell? ⟨B + 3, 0, none⟩ = some (.string (boolB (decide (a < b)))) ∧ w'.cell? ⟨B + 3, 1, none⟩ = some (.string ⟨#[104, 116, 116, 112, 58, 47, 47, 119, 119, 119, 46, 119, 51, 46, 111, 114, 103, 47, 50, 48, 48, 49, 47, 88, 77, 76, 83, 99, 104, 101, 109, 97, 35, 98, 111, 111, 108, 101, 97, 110]⟩) ∧ w'.cell? ⟨B + 3, 2, none⟩ = some (.string ⟨#[]⟩) ∧ Below w.heap.size w w'
theorem box4_below {a b : Int} {x : Bool} {B : Nat} {w w1 w2 : World} (h : Box4 a b x B w w1) (hb : Below w1.heap.size w1 w2) : Box4 a b x B w w2 := by
  obtain ⟨c0, c1, c2, c3, c4, c5, c6, c7, c8, c9, c10, c11, z⟩ := h
  exact ⟨cell_below c0 hb, cell_below c1 hb, cell_below c2 hb, cell_below c3 hb, cell_below c4 hb, cell_below c5 hb, cell_below c6 hb, cell_below c7 hb, cell_below c8 hb, cell_below c9 hb, cell_below c10 hb, cell_below c11 hb, z.trans (hb.mono z.size)⟩
set_option maxRecDepth 100000 in
set_option maxHeartbeats 3200000 in
theorem ints_walk (a b : Int) (x : Bool) (w : World) (ha : Fit a) (hb : Fit b) (ht : TabV w) (hv : ErrV w) :
    Calls Tryd.prog 7 #[.int .i64 a, .int .i64 b, .bool x] w fun e w' => e = .returned (.bool true) ∧ Below w.heap.size w w' := by
  have AW := Lib.hid (fun w hv => awake3_any w hv)
  have IA := Lib.hid (fun w ht => int_any a w ha.1 ha.2 ht)
  have IB := Lib.hid (fun w ht => int_any b w hb.1 hb.2 ht)
  have E1 : Hid (∀ w, ErrV w → Calls Tryd.prog 14 #[.iface 35 (.agg #[.string (intB a), .string ⟨#[104, 116, 116, 112, 58, 47, 47, 119, 119, 119, 46, 119, 51, 46, 111, 114, 103, 47, 50, 48, 48, 49, 47, 88, 77, 76, 83, 99, 104, 101, 109, 97, 35, 105, 110, 116, 101, 103, 101, 114]⟩, .string ⟨#[]⟩]), .iface 35 (.agg #[.string (intB b), .string ⟨#[104, 116, 116, 112, 58, 47, 47, 119, 119, 119, 46, 119, 51, 46, 111, 114, 103, 47, 50, 48, 48, 49, 47, 88, 77, 76, 83, 99, 104, 101, 109, 97, 35, 105, 110, 116, 101, 103, 101, 114]⟩, .string ⟨#[]⟩])] w fun e w' => e = .returned (.int .u8 (truthV (a == b))) ∧ Below w.heap.size w w') := Lib.hid (fun w hv => by
    have := equal_any (litI a) (litI b) w (sized_int ha) (sized_int hb) hv
    rw [equal_int ha hb] at this
    exact this)
  have S1 : Hid (∀ w, Calls Tryd.prog 27 #[.iface 35 (.agg #[.string (intB a), .string ⟨#[104, 116, 116, 112, 58, 47, 47, 119, 119, 119, 46, 119, 51, 46, 111, 114, 103, 47, 50, 48, 48, 49, 47, 88, 77, 76, 83, 99, 104, 101, 109, 97, 35, 105, 110, 116, 101, 103, 101, 114]⟩, .string ⟨#[]⟩]), .iface 35 (.agg #[.string (intB b), .string ⟨#[104, 116, 116, 112, 58, 47, 47, 119, 119, 119, 46, 119, 51, 46, 111, 114, 103, 47, 50, 48, 48, 49, 47, 88, 77, 76, 83, 99, 104, 101, 109, 97, 35, 105, 110, 116, 101, 103, 101, 114]⟩, .string ⟨#[]⟩])] w fun e w' => e = .returned (.bool (a == b)) ∧ w = w') := Lib.hid (fun w => by
    have := same_any (litI a) (litI b) w
    rw [eqT_int ha hb] at this
    exact this)
  have F1 : Hid (∀ w, ErrV w → Calls Tryd.prog 25 #[.iface 35 (.agg #[.string (intB a), .string ⟨#[104, 116, 116, 112, 58, 47, 47, 119, 119, 119, 46, 119, 51, 46, 111, 114, 103, 47, 50, 48, 48, 49, 47, 88, 77, 76, 83, 99, 104, 101, 109, 97, 35, 105, 110, 116, 101, 103, 101, 114]⟩, .string ⟨#[]⟩])] w fun e w' => e = .returned (.int .u8 (truthV (a != 0))) ∧ Below w.heap.size w w') := Lib.hid (fun w hv => by
    have := eff_any (litI a) w (sized_int ha) hv
    rw [eff_int ha] at this
    exact this)
  have E2 : Hid (∀ w, ErrV w → Calls Tryd.prog 14 #[.iface 35 (.agg #[.string (boolB x), .string ⟨#[104, 116, 116, 112, 58, 47, 47, 119, 119, 119, 46, 119, 51, 46, 111, 114, 103, 47, 50, 48, 48, 49, 47, 88, 77, 76, 83, 99, 104, 101, 109, 97, 35, 98, 111, 111, 108, 101, 97, 110]⟩, .string ⟨#[]⟩]), .iface 35 (.agg #[.string (boolB (decide (a < b))), .string ⟨#[104, 116, 116, 112, 58, 47, 47, 119, 119, 119, 46, 119, 51, 46, 111, 114, 103, 47, 50, 48, 48, 49, 47, 88, 77, 76, 83, 99, 104, 101, 109, 97, 35, 98, 111, 111, 108, 101, 97, 110]⟩, .string ⟨#[]⟩])] w fun e w' => e = .returned (.int .u8 (truthV (x == decide (a < b)))) ∧ Below w.heap.size w w') := Lib.hid (fun w hv => by
    have := equal_any (litB x) (litB (decide (a < b))) w (sized_bool x) (sized_bool _) hv
    rw [equal_bool] at this
    exact this)
  have F2 : Hid (∀ w, ErrV w → Calls Tryd.prog 25 #[.iface 35 (.agg #[.string (boolB x), .string ⟨#[104, 116, 116, 112, 58, 47, 47, 119, 119, 119, 46, 119, 51, 46, 111, 114, 103, 47, 50, 48, 48, 49, 47, 88, 77, 76, 83, 99, 104, 101, 109, 97, 35, 98, 111, 111, 108, 101, 97, 110]⟩, .string ⟨#[]⟩])] w fun e w' => e = .returned (.int .u8 (truthV x)) ∧ Below w.heap.size w w') := Lib.hid (fun w hv => by
    have := eff_any (litB x) w (sized_bool x) hv
    rw [eff_bool] at this
    exact this)
  have E3 : Hid (∀ w, ErrV w → Calls Tryd.prog 14 #[.iface 35 (.agg #[.string (intB a), .string ⟨#[104, 116, 116, 112, 58, 47, 47, 119, 119, 119, 46, 119, 51, 46, 111, 114, 103, 47, 50, 48, 48, 49, 47, 88, 77, 76, 83, 99, 104, 101, 109, 97, 35, 105, 110, 116, 101, 103, 101, 114]⟩, .string ⟨#[]⟩]), .iface 35 (.agg #[.string (boolB x), .string ⟨#[104, 116, 116, 112, 58, 47, 47, 119, 119, 119, 46, 119, 51, 46, 111, 114, 103, 47, 50, 48, 48, 49, 47, 88, 77, 76, 83, 99, 104, 101, 109, 97, 35, 98, 111, 111, 108, 101, 97, 110]⟩, .string ⟨#[]⟩])] w fun e w' => e = .returned (.int .u8 0) ∧ Below w.heap.size w w') := Lib.hid (fun w hv => by
    have := equal_any (litI a) (litB x) w (sized_int ha) (sized_bool x) hv
    rw [equal_mixed] at this
    exact this)
  have K1 : Hid (∀ w, Calls Tryd.prog 28 #[.iface 35 (.agg #[.string (intB a), .string ⟨#[104, 116, 116, 112, 58, 47, 47, 119, 119, 119, 46, 119, 51, 46, 111, 114, 103, 47, 50, 48, 48, 49, 47, 88, 77, 76, 83, 99, 104, 101, 109, 97, 35, 105, 110, 116, 101, 103, 101, 114]⟩, .string ⟨#[]⟩])] w fun e w' => e = .returned (.int .i64 2) ∧ w = w') := Lib.hid (fun w => kind_any (litI a) w)
  have HTV := Lib.hid (fun w' (hb : Below w.heap.size w w') => ht.below hb)
  have HEV := Lib.hid (fun w' (hb : Below w.heap.size w w') => hv.below hb)
  have box_z : ∀ {B : Nat} {w' : World}, Box4 a b x B w w' → Below w.heap.size w w' := fun h => h.2.2.2.2.2.2.2.2.2.2.2.2
  have HV := Lib.hid hv
  clear ht hv
  go_enter Tryd.func7, Tryd.ntmps7
  go_wp2_with fail
  refine (AW.out _ HV.out).mono ?_
  rintro e w1 ⟨rfl, hb1⟩
  go_wp2_with fail
  refine (IA.out _ (HTV.out _ hb1)).mono ?_
  rintro e w2 ⟨rfl, hb2⟩
  have z2 := hb1.trans (hb2.mono hb1.size)
  clear hb1 hb2
  go_wp2_with fail
  refine (IB.out _ (HTV.out _ z2)).mono ?_
  rintro e w3 ⟨rfl, hb3⟩
  have z3 := z2.trans (hb3.mono z2.size)
  clear z2 hb3
  go_wp2_with fail
  refine (bool_any x _).mono ?_
  rintro e w4 ⟨rfl, hb4⟩
  have z4 := z3.trans (hb4.mono z3.size)
  clear z3 hb4
  go_wp2_with fail
  refine (bool_any (decide (a < b)) _).mono ?_
  rintro e w5 ⟨rfl, hb5⟩
  have z5 := z4.trans (hb5.mono z4.size)
  clear z4 hb5
  go_wp2_with fail
  obtain ⟨B, hB⟩ : ∃ B, B = w5.heap.size := ⟨_, rfl⟩
  obtain ⟨w6, h6⟩ : ∃ w6, w6 = (((w5.alloc (.cells #[.string (intB a), .string ⟨#[104, 116, 116, 112, 58, 47, 47, 119, 119, 119, 46, 119, 51, 46, 111, 114, 103, 47, 50, 48, 48, 49, 47, 88, 77, 76, 83, 99, 104, 101, 109, 97, 35, 105, 110, 116, 101, 103, 101, 114]⟩, .string ⟨#[]⟩] 35)).alloc (.cells #[.string (intB b), .string ⟨#[104, 116, 116, 112, 58, 47, 47, 119, 119, 119, 46, 119, 51, 46, 111, 114, 103, 47, 50, 48, 48, 49, 47, 88, 77, 76, 83, 99, 104, 101, 109, 97, 35, 105, 110, 116, 101, 103, 101, 114]⟩, .string ⟨#[]⟩] 35)).alloc (.cells #[.string (boolB x), .string ⟨#[104, 116, 116, 112, 58, 47, 47, 119, 119, 119, 46, 119, 51, 46, 111, 114, 103, 47, 50, 48, 48, 49, 47, 88, 77, 76, 83, 99, 104, 101, 109, 97, 35, 98, 111, 111, 108, 101, 97, 110]⟩, .string ⟨#[]⟩] 35)).alloc (.cells #[.string (boolB (decide (a < b))), .string ⟨#[104, 116, 116, 112, 58, 47, 47, 119, 119, 119, 46, 119, 51, 46, 111, 114, 103, 47, 50, 48, 48, 49, 47, 88, 77, 76, 83, 99, 104, 101, 109, 97, 35, 98, 111, 111, 108, 101, 97, 110]⟩, .string ⟨#[]⟩] 35) := ⟨_, rfl⟩
  have HX : Hid (Box4 a b x B w w6) := Lib.hid (by
    rw [h6, hB]
    refine ⟨by simp [go_sem], by simp [go_sem], by simp [go_sem], by simp [go_sem], by simp [go_sem], by simp [go_sem], by simp [go_sem], by simp [go_sem], by simp [go_sem], by simp [go_sem], by simp [go_sem], by simp [go_sem], ?_⟩
    have hz := z5.size
    exact (((z5.alloc hz _).alloc (by simp; omega) _).alloc (by simp; omega) _).alloc (by simp; omega) _)
  rw [← h6, ← hB]
  clear h6 hB z5
  refine (E1.out _ (HEV.out _ (box_z HX.out))).mono ?_
  rintro e wn ⟨rfl, hbn⟩
  replace HX := Lib.hid (box4_below HX.out hbn)
  clear hbn
  obtain ⟨c0, c1, c2, c3, c4, c5, c6, c7, c8, c9, c10, c11, _⟩ := HX.out
  go_wp2_with fail
  refine (vof_any _ _).mono ?_
  rintro e w' ⟨rfl, rfl⟩
  clear c0 c1 c2 c3 c4 c5 c6 c7 c8 c9 c10 c11
  obtain ⟨c0, c1, c2, c3, c4, c5, c6, c7, c8, c9, c10, c11, _⟩ := HX.out
  go_wp2_with fail
  refine (S1.out _).mono ?_
  rintro e w' ⟨rfl, rfl⟩
  clear c0 c1 c2 c3 c4 c5 c6 c7 c8 c9 c10 c11
  obtain ⟨c0, c1, c2, c3, c4, c5, c6, c7, c8, c9, c10, c11, _⟩ := HX.out
  go_wp2_with fail
  refine (F1.out _ (HEV.out _ (box_z HX.out))).mono ?_
  rintro e wn ⟨rfl, hbn⟩
  clear c0 c1 c2 c3 c4 c5 c6 c7 c8 c9 c10 c11
  replace HX := Lib.hid (box4_below HX.out hbn)
  clear hbn
  obtain ⟨c0, c1, c2, c3, c4, c5, c6, c7, c8, c9, c10, c11, _⟩ := HX.out
  go_wp2_with fail
  refine (vof_any _ _).mono ?_
  rintro e w' ⟨rfl, rfl⟩
  clear c0 c1 c2 c3 c4 c5 c6 c7 c8 c9 c10 c11
  obtain ⟨c0, c1, c2, c3, c4, c5, c6, c7, c8, c9, c10, c11, _⟩ := HX.out
  go_wp2_with fail
  refine (E2.out _ (HEV.out _ (box_z HX.out))).mono ?_
  rintro e wn ⟨rfl, hbn⟩
  clear c0 c1 c2 c3 c4 c5 c6 c7 c8 c9 c10 c11
  replace HX := Lib.hid (box4_below HX.out hbn)
  clear hbn
  obtain ⟨c0, c1, c2, c3, c4, c5, c6, c7, c8, c9, c10, c11, _⟩ := HX.out
  go_wp2_with fail
  refine (vof_any _ _).mono ?_
  rintro e w' ⟨rfl, rfl⟩
  clear c0 c1 c2 c3 c4 c5 c6 c7 c8 c9 c10 c11
  obtain ⟨c0, c1, c2, c3, c4, c5, c6, c7, c8, c9, c10, c11, _⟩ := HX.out
  go_wp2_with fail
  refine (F2.out _ (HEV.out _ (box_z HX.out))).mono ?_
  rintro e wn ⟨rfl, hbn⟩
  clear c0 c1 c2 c3 c4 c5 c6 c7 c8 c9 c10 c11
  replace HX := Lib.hid (box4_below HX.out hbn)
  clear hbn
  obtain ⟨c0, c1, c2, c3, c4, c5, c6, c7, c8, c9, c10, c11, _⟩ := HX.out
  go_wp2_with fail
  refine (vof_any _ _).mono ?_
  rintro e w' ⟨rfl, rfl⟩
  clear c0 c1 c2 c3 c4 c5 c6 c7 c8 c9 c10 c11
  obtain ⟨c0, c1, c2, c3, c4, c5, c6, c7, c8, c9, c10, c11, _⟩ := HX.out
  go_wp2_with fail
  refine (E3.out _ (HEV.out _ (box_z HX.out))).mono ?_
  rintro e wn ⟨rfl, hbn⟩
  clear c0 c1 c2 c3 c4 c5 c6 c7 c8 c9 c10 c11
  replace HX := Lib.hid (box4_below HX.out hbn)
  clear hbn
  obtain ⟨c0, c1, c2, c3, c4, c5, c6, c7, c8, c9, c10, c11, _⟩ := HX.out
  go_wp2_with fail
  refine (K1.out _).mono ?_
  rintro e w' ⟨rfl, rfl⟩
  clear c0 c1 c2 c3 c4 c5 c6 c7 c8 c9 c10 c11
  go_wp2_with fail
  go_ret
  exact ⟨rfl, box_z HX.out⟩
end Go.Proofs.YteeajhnbifpklaaDoor
